/- Words, walks and plain laws that the claim leans on, part 13. -/
import Derived.Test.YtiodmhcmciohnaaG12
import Derived.Lib.SlBytesConst

/-! The reference's receiver: Put. -/
namespace Go.Proofs.Ytiodmhcmciohnaa
set_option linter.unusedVariables false
set_option linter.unusedSimpArgs false
open Go.RowKit

theorem ZOwn.apart {w : World} {B b T : Nat} {v : Value} {l : List Int} {cs : Array Value} (h : ZOwn w B v l) (hr : RowAt w b cs T) (hT : T ≠ 3) : v.ownBlock ≠ some b := by
  obtain ⟨h1, h0, h2⟩ := h
  rcases h2 with ⟨rfl, -, -⟩ | ⟨g, off, c, cs', hb, rfl, h3, h4, hr', h5, h6⟩
  · simp [Value.ownBlock]
  · intro e
    obtain rfl : g = b := by simpa [Value.ownBlock] using e
    have : some (Obj.cells cs' 3 (0, 0)) = some (Obj.cells cs T (0, 0)) := hr'.symm.trans hr
    simp only [Option.some.injEq, Obj.cells.injEq] at this
    exact hT this.2.1.symm
theorem ZOwn.apartB {w : World} {B B' : Nat} {v v' : Value} {l : List Int} {l' : List UInt8} (h : ZOwn w B v l) (h' : BOwn w B' v' l') : ∀ b, v.ownBlock = some b → v'.ownBlock ≠ some b := by
  intro b hb
  obtain ⟨h1, h0, h2⟩ := h
  rcases h2 with ⟨rfl, -, -⟩ | ⟨g, off, c, cs', hbb, rfl, h3, h4, hr', h5, h6⟩
  · simp [Value.ownBlock] at hb
  · obtain rfl : g = b := by simpa [Value.ownBlock] using hb
    exact h'.apart hr' (by decide)

/-- How long All is. -/
def lenAt (w : World) (y : Nat) : Nat := match w.cell? ⟨y, 1, none⟩ with
  | some (.slice _ n _) => n
  | _ => 0
/-- What a Put of the reference's receiver leaves. -/
def RPut (x : Nat) (room : Int) (allv : Value) (taken : Nat) (all : List UInt8) (Q1 : List PB) (w : World) (e : Ending) (w' : World) : Prop :=
  ∃ D : List UInt8, (∀ j (hj : j < D.length), hasQ Q1 ((all.length : Int) + (j : Int)) = some D[j]) ∧ hasQ Q1 ((all.length : Int) + (D.length : Int)) = none ∧
    ((64 < (scanF (hasQ Q1) (room.toNat + 1) ((all.length : Int) + (D.length : Int)) []).length ∧ e = .returned (.tuple #[.int .i64 0, .int .i64 7]) ∧ Keeps (fun _ => False) w w') ∨
      ((scanF (hasQ Q1) (room.toNat + 1) ((all.length : Int) + (D.length : Int)) []).length ≤ 64 ∧ e = .returned (.tuple #[.int .i64 D.length, .int .i64 0]) ∧ ∃ allv' atv' bsv', RowAt w' x #[.int .i64 room, allv', .int .i64 taken, atv', bsv'] 33 ∧
        (BOwn w' w.heap.size allv' (all ++ D) ∨ allv' = allv ∧ D = []) ∧ ZOwn w' w.heap.size atv' ((Q1.filter (fun p => decide (((all.length : Int) + (D.length : Int)) ≤ p.1))).map (·.1)) ∧
        BOwn w' w.heap.size bsv' ((Q1.filter (fun p => decide (((all.length : Int) + (D.length : Int)) ≤ p.1))).map (·.2)) ∧ Keeps (· = x) w w'))
set_option maxRecDepth 100000 in
set_option maxHeartbeats 8000000 in
theorem rput_any (x : Nat) (room at' : Int) (allv dv : Value) (taken : Nat) (atv bsv : Value) (all data : List UInt8) (Q : List PB) (w : World) (h : RefA x room allv taken atv bsv all Q w) (hd : BRd w dv data)
    (h0 : 0 ≤ at') (h1 : at' + data.length ≤ 1000000000) (hr1 : 0 ≤ room) (hr2 : room ≤ 65535) (h3 : all.length ≤ 100000) (h4 : taken ≤ all.length) (hQ : Q.length ≤ 100000) (hdl : data.length ≤ 100000) (K : Nat) (hK : K ≤ 100000) (hKQ : ∀ t, (all.length : Int) + (K : Int) ≤ t → hasQ (addQ all.length ((all.length : Int) + (room - ((all.length : Int) - (taken : Int)))) Q at' data) t = none) :
    Calls Try.prog 13 #[.pointer (some ⟨x, 0, none⟩), .int .i64 at', dv] w (RPut x room allv taken all (addQ all.length ((all.length : Int) + (room - ((all.length : Int) - (taken : Int)))) Q at' data) w) := by
  obtain ⟨da, dc, rfl, hdc, hdm⟩ := BAt.slice hd
  obtain ⟨aa, ac, rfl, -, -⟩ := BAt.slice h.hA
  obtain ⟨za, zc, rfl, -, -⟩ := ZAt.slice h.hz
  obtain ⟨ba, bc, rfl, -, -⟩ := BAt.slice h.hb
  have hQz : (Q.map (·.1)).length = Q.length := List.length_map _
  have hQb : (Q.map (·.2)).length = Q.length := List.length_map _
  have q0 := i64_fit (1000000000 - (data.length : Int)) (by omega) (by omega)
  have g0 : ¬ at' < 0 := by omega
  have g1 : ¬ 1000000000 - (data.length : Int) < at' := by omega
  have p0 : w.cell? ⟨x, 0, none⟩ = some (.int .i64 room) := h.hr.cell 0
  have p1 : w.cell? ⟨x, 1, none⟩ = some (.slice aa all.length ac) := h.hr.cell 1
  have p2 : w.cell? ⟨x, 2, none⟩ = some (.int .i64 taken) := h.hr.cell 2
  have HH := Lib.hid h
  have HDD := Lib.hid hd
  clear h hd
  go_enter Try.func13, Try.ntmps13
  go_wp2
  refine region_draws_tail 12 (by kernel_rfl) (by kernel_rfl) ?_
  simp only [List.take_succ_cons, List.take_zero, List.drop_succ_cons, List.drop_zero]
  repeat (go_big_quiet_step (fail))
  refine wpQuiet_nil ?_
  rintro _ ⟨nq, rfl⟩
  have hk0 : Keeps (fun _ => False) w (w.drewN nq) := (Keeps.refl _ _).drewN nq
  have hk1 := hk0.alloc (.cells #[.int .i64 room, .slice aa all.length ac, .int .i64 taken, .slice none 0 0, .slice none 0 0] 33)
  have hy1 := RowAt.new (w.drewN nq) #[.int .i64 room, .slice aa all.length ac, .int .i64 taken, .slice none 0 0, .slice none 0 0] 33
  go_wp2_with fail
  obtain ⟨y, hy⟩ : ∃ y, w.heap.size = y := ⟨_, rfl⟩
  have hyq : (w.drewN nq).heap.size = y := hy
  rw [hyq] at hy1
  rw [hy]
  generalize (w.drewN nq).alloc (.cells #[.int .i64 room, .slice aa all.length ac, .int .i64 taken, .slice none 0 0, .slice none 0 0] 33) = W1 at *
  have hR1 := HH.out.keeps hk1
  have hBW : w.heap.size ≤ W1.heap.size := hk1.size
  -- At
  obtain ⟨v4, w4, hrun4, hz4, hk4, -⟩ := run_append_ints (ty := 31) (ZOwn.nil W1.drew w.heap.size) (ZAt.keeps hR1.hz (Keeps.refl (fun _ => False) W1).drew (fun _ _ h => h)) (by simp only [List.length_nil, List.length_map]; omega) hBW
  rw [List.nil_append] at hz4
  obtain ⟨a4, c4, rfl, -, -⟩ := ZAt.slice hz4.bat
  have hk4' : Keeps (fun _ => False) W1 w4 := (Keeps.refl (fun _ => False) W1).drew.trans hk4 (fun b _ e => by simp [Value.ownBlock] at e)
  have hy4 := hy1.keeps hk4' (fun h => h)
  have hx1 : W1.cell? ⟨x, 3, none⟩ = some (.slice za Q.length zc) := by have := hR1.hr.cell 3; rw [hQz] at this; exact this
  have hx4 := hk4'.cell hx1 (fun h => h)
  have c3 : W1.cell? ⟨y, 3, none⟩ = some (.slice none 0 0) := hy1.cell 3
  have c34 : w4.cell? ⟨y, 3, none⟩ = some (.slice none 0 0) := hy4.cell 3
  have f34 := hy4.frozen 3
  rw [hQz] at hrun4
  have HR4 := Lib.hid hrun4
  clear hrun4
  refine region_T [12] (fun z => z.cell? ⟨y, 3, none⟩ = some (.slice none 0 0) ∧ z.cell? ⟨x, 3, none⟩ = some (.slice za Q.length zc)) (by kernel_rfl) ?_
  have hC : (fun z : World => z.cell? ⟨y, 3, none⟩ = some (.slice none 0 0) ∧ z.cell? ⟨x, 3, none⟩ = some (.slice za Q.length zc)) W1.drew := ⟨c3, hx1⟩
  refine anyT_take0 (i := 0) (v := ?_) rfl (by kernel_rfl) (by kernel_rfl) (by kernel_rfl) (by kernel_rfl) (by kernel_rfl) (fun _ _ _ h => h) hC (.inl ⟨by rfl, fun _ _ => ?_⟩) ?_
  rotate_left 1
  · go_simp
    try with_reducible rfl
  simp only [Act.put, List.getElem_toArray, List.getElem_cons_succ, List.getElem_cons_zero, List.setIfInBounds_toArray, List.set_cons_zero, List.set_cons_succ]
  refine anyT_take0 (i := 1) (v := ?_) rfl (by kernel_rfl) (by kernel_rfl) (by kernel_rfl) (by kernel_rfl) (by kernel_rfl) (fun _ _ _ h => h) hC (.inl ⟨by rfl, fun _ _ => ?_⟩) ?_
  rotate_left 1
  · go_simp
    try with_reducible rfl
  simp only [Act.put, List.getElem_toArray, List.getElem_cons_succ, List.getElem_cons_zero, List.setIfInBounds_toArray, List.set_cons_zero, List.set_cons_succ]
  refine anyT_take0 (i := 2) (v := ?_) rfl (by kernel_rfl) (by kernel_rfl) (by kernel_rfl) (by kernel_rfl) (by kernel_rfl) (fun _ _ _ h => h) hC (.inl ⟨by rfl, fun _ _ => ?_⟩) ?_
  rotate_left 1
  · go_simp
    try with_reducible rfl
  simp only [Act.put, List.getElem_toArray, List.getElem_cons_succ, List.getElem_cons_zero, List.setIfInBounds_toArray, List.set_cons_zero, List.set_cons_succ]
  refine anyT_take0 (i := 3) (v := ?_) rfl (by kernel_rfl) (by kernel_rfl) (by kernel_rfl) (by kernel_rfl) (by kernel_rfl) (fun _ _ _ h => h) hC (.inl ⟨by rfl, fun _ _ => ?_⟩) ?_
  rotate_left 1
  · go_simp
    try with_reducible rfl
  simp only [Act.put, List.getElem_toArray, List.getElem_cons_succ, List.getElem_cons_zero, List.setIfInBounds_toArray, List.set_cons_zero, List.set_cons_succ]
  refine anyT_takeC (i := 4) (v := ?_) rfl (by kernel_rfl) (by kernel_rfl) (by kernel_rfl) (by kernel_rfl) (by kernel_rfl) (by kernel_rfl) (fun _ _ _ h => h) hC (.inl ⟨by rfl, fun w hCw => ?_⟩) ?_
  rotate_left 1
  · dsimp only at hCw
    go_simp
    try with_reducible rfl
  simp only [Act.put, List.getElem_toArray, List.getElem_cons_succ, List.getElem_cons_zero, List.setIfInBounds_toArray, List.set_cons_zero, List.set_cons_succ]
  refine anyT_take0 (i := 5) (v := ?_) rfl (by kernel_rfl) (by kernel_rfl) (by kernel_rfl) (by kernel_rfl) (by kernel_rfl) (fun _ _ _ h => h) hC (.inl ⟨by rfl, fun _ _ => ?_⟩) ?_
  rotate_left 1
  · go_simp
    try with_reducible rfl
  simp only [Act.put, List.getElem_toArray, List.getElem_cons_succ, List.getElem_cons_zero, List.setIfInBounds_toArray, List.set_cons_zero, List.set_cons_succ]
  refine anyT_take0 (i := 6) (v := ?_) rfl (by kernel_rfl) (by kernel_rfl) (by kernel_rfl) (by kernel_rfl) (by kernel_rfl) (fun _ _ _ h => h) hC (.inl ⟨by rfl, fun _ _ => ?_⟩) ?_
  rotate_left 1
  · go_simp
    try with_reducible rfl
  simp only [Act.put, List.getElem_toArray, List.getElem_cons_succ, List.getElem_cons_zero, List.setIfInBounds_toArray, List.set_cons_zero, List.set_cons_succ]
  refine anyT_take0 (i := 7) (v := ?_) rfl (by kernel_rfl) (by kernel_rfl) (by kernel_rfl) (by kernel_rfl) (by kernel_rfl) (fun _ _ _ h => h) hC (.inl ⟨by rfl, fun _ _ => ?_⟩) ?_
  rotate_left 1
  · go_simp
    try with_reducible rfl
  simp only [Act.put, List.getElem_toArray, List.getElem_cons_succ, List.getElem_cons_zero, List.setIfInBounds_toArray, List.set_cons_zero, List.set_cons_succ]
  refine anyT_takeC (i := 8) (v := ?_) rfl (by kernel_rfl) (by kernel_rfl) (by kernel_rfl) (by kernel_rfl) (by kernel_rfl) (by kernel_rfl) (fun _ _ _ h => h) hC (.inl ⟨by rfl, fun w hCw => ?_⟩) ?_
  rotate_left 1
  · dsimp only at hCw
    go_simp
    try with_reducible rfl
  simp only [Act.put, List.getElem_toArray, List.getElem_cons_succ, List.getElem_cons_zero, List.setIfInBounds_toArray, List.set_cons_zero, List.set_cons_succ]
  refine anyT_force (i := 9) rfl (by kernel_rfl) (by rfl) ?_
  refine Lib.wp_append_run _ _ _ _ _ rfl _ _ rfl rfl _ _ HR4.out ?_
  refine ⟨fun _ => ⟨c34, hx4⟩, ?_⟩
  simp only [Act.put, List.getElem_toArray, List.getElem_cons_succ, List.getElem_cons_zero, List.setIfInBounds_toArray, List.set_cons_zero, List.set_cons_succ]
  have hC : (fun z : World => z.cell? ⟨y, 3, none⟩ = some (.slice none 0 0) ∧ z.cell? ⟨x, 3, none⟩ = some (.slice za Q.length zc)) w4 := ⟨c34, hx4⟩
  refine anyT_take0 (i := 10) (v := ?_) rfl (by kernel_rfl) (by kernel_rfl) (by kernel_rfl) (by kernel_rfl) (by kernel_rfl) (fun _ _ _ h => h) hC (.inl ⟨by rfl, fun _ _ => ?_⟩) ?_
  rotate_left 1
  · go_simp
    try with_reducible rfl
  simp only [Act.put, List.getElem_toArray, List.getElem_cons_succ, List.getElem_cons_zero, List.setIfInBounds_toArray, List.set_cons_zero, List.set_cons_succ]
  refine anyT_take0 (i := 11) (v := ?_) rfl (by kernel_rfl) (by kernel_rfl) (by kernel_rfl) (by kernel_rfl) (by kernel_rfl) (fun _ _ _ h => h) hC (.inl ⟨by rfl, fun _ _ => ?_⟩) ?_
  rotate_left 1
  · go_simp
    try with_reducible rfl
  simp only [Act.put, List.getElem_toArray, List.getElem_cons_succ, List.getElem_cons_zero, List.setIfInBounds_toArray, List.set_cons_zero, List.set_cons_succ]
  refine anyT_tail (k := 12) (by rfl) (by kernel_rfl) (by simp) rfl rfl (by kernel_rfl) ?_
  rw [hQz] at hz4
  have hy5 : RowAt (w4.setCell ⟨y, 3, none⟩ (.slice a4 Q.length c4)) y #[.int .i64 room, .slice aa all.length ac, .int .i64 taken, .slice a4 Q.length c4, .slice none 0 0] 33 := (hy4.set 3 _).eq rfl
  have hk45 : Keeps (· = y) w4 (w4.setCell ⟨y, 3, none⟩ (.slice a4 Q.length c4)) := (Keeps.refl _ _).setCell _ _ (.inl rfl)
  have hz5 := hz4.keeps hk45 (fun b hb e => by subst e; exact hz4.apart hy4 (by decide) hb)
  have hk5 : Keeps (fun _ => False) w (w4.setCell ⟨y, 3, none⟩ (.slice a4 Q.length c4)) := (hk1.trans hk4' (fun _ _ h => h)).from hk45 (fun b e => by subst e; omega)
  go_wp2
  generalize w4.setCell ⟨y, 3, none⟩ (.slice a4 Q.length c4) = W5 at *
  clear hk45 hk4 hk4' hz4 hy4 hC c34 f34 c3 hx4 hx1 HR4 hR1 hk1 hy1
  have hR5 := HH.out.keeps hk5
  have hB5 : w.heap.size ≤ W5.heap.size := hk5.size
  obtain ⟨v6, w6, hrun6, hb6, hk6, -⟩ := run_append_bytes (ty := 30) (BOwn.nil W5.drew w.heap.size) (BAt.keeps hR5.hb (Keeps.refl (fun _ => False) W5).drew (fun _ _ h => h)) (by simp only [List.length_nil, List.length_map]; omega) hB5
  rw [List.nil_append] at hb6
  obtain ⟨a6, c6, rfl, -, -⟩ := BOwn.slice hb6
  have hk6' : Keeps (fun _ => False) W5 w6 := (Keeps.refl (fun _ => False) W5).drew.trans hk6 (fun b _ e => by simp [Value.ownBlock] at e)
  have hy6 := hy5.keeps hk6' (fun h => h)
  have hz6 := hz5.keeps hk6' (fun _ _ h => h)
  have hx1 : W5.cell? ⟨x, 4, none⟩ = some (.slice ba Q.length bc) := by have := hR5.hr.cell 4; rw [hQb] at this; exact this
  have hx4 := hk6'.cell hx1 (fun h => h)
  have c3 : W5.cell? ⟨y, 4, none⟩ = some (.slice none 0 0) := hy5.cell 4
  have c34 : w6.cell? ⟨y, 4, none⟩ = some (.slice none 0 0) := hy6.cell 4
  have f34 := hy6.frozen 4
  rw [hQb] at hrun6
  have HR6 := Lib.hid hrun6
  clear hrun6
  refine region_T [12] (fun z => z.cell? ⟨y, 4, none⟩ = some (.slice none 0 0) ∧ z.cell? ⟨x, 4, none⟩ = some (.slice ba Q.length bc)) (by kernel_rfl) ?_
  have hC : (fun z : World => z.cell? ⟨y, 4, none⟩ = some (.slice none 0 0) ∧ z.cell? ⟨x, 4, none⟩ = some (.slice ba Q.length bc)) W5.drew := ⟨c3, hx1⟩
  refine anyT_take0 (i := 0) (v := ?_) rfl (by kernel_rfl) (by kernel_rfl) (by kernel_rfl) (by kernel_rfl) (by kernel_rfl) (fun _ _ _ h => h) hC (.inl ⟨by rfl, fun _ _ => ?_⟩) ?_
  rotate_left 1
  · go_simp
    try with_reducible rfl
  simp only [Act.put, List.getElem_toArray, List.getElem_cons_succ, List.getElem_cons_zero, List.setIfInBounds_toArray, List.set_cons_zero, List.set_cons_succ]
  refine anyT_take0 (i := 1) (v := ?_) rfl (by kernel_rfl) (by kernel_rfl) (by kernel_rfl) (by kernel_rfl) (by kernel_rfl) (fun _ _ _ h => h) hC (.inl ⟨by rfl, fun _ _ => ?_⟩) ?_
  rotate_left 1
  · go_simp
    try with_reducible rfl
  simp only [Act.put, List.getElem_toArray, List.getElem_cons_succ, List.getElem_cons_zero, List.setIfInBounds_toArray, List.set_cons_zero, List.set_cons_succ]
  refine anyT_take0 (i := 2) (v := ?_) rfl (by kernel_rfl) (by kernel_rfl) (by kernel_rfl) (by kernel_rfl) (by kernel_rfl) (fun _ _ _ h => h) hC (.inl ⟨by rfl, fun _ _ => ?_⟩) ?_
  rotate_left 1
  · go_simp
    try with_reducible rfl
  simp only [Act.put, List.getElem_toArray, List.getElem_cons_succ, List.getElem_cons_zero, List.setIfInBounds_toArray, List.set_cons_zero, List.set_cons_succ]
  refine anyT_take0 (i := 3) (v := ?_) rfl (by kernel_rfl) (by kernel_rfl) (by kernel_rfl) (by kernel_rfl) (by kernel_rfl) (fun _ _ _ h => h) hC (.inl ⟨by rfl, fun _ _ => ?_⟩) ?_
  rotate_left 1
  · go_simp
    try with_reducible rfl
  simp only [Act.put, List.getElem_toArray, List.getElem_cons_succ, List.getElem_cons_zero, List.setIfInBounds_toArray, List.set_cons_zero, List.set_cons_succ]
  refine anyT_takeC (i := 4) (v := ?_) rfl (by kernel_rfl) (by kernel_rfl) (by kernel_rfl) (by kernel_rfl) (by kernel_rfl) (by kernel_rfl) (fun _ _ _ h => h) hC (.inl ⟨by rfl, fun w hCw => ?_⟩) ?_
  rotate_left 1
  · dsimp only at hCw
    go_simp
    try with_reducible rfl
  simp only [Act.put, List.getElem_toArray, List.getElem_cons_succ, List.getElem_cons_zero, List.setIfInBounds_toArray, List.set_cons_zero, List.set_cons_succ]
  refine anyT_take0 (i := 5) (v := ?_) rfl (by kernel_rfl) (by kernel_rfl) (by kernel_rfl) (by kernel_rfl) (by kernel_rfl) (fun _ _ _ h => h) hC (.inl ⟨by rfl, fun _ _ => ?_⟩) ?_
  rotate_left 1
  · go_simp
    try with_reducible rfl
  simp only [Act.put, List.getElem_toArray, List.getElem_cons_succ, List.getElem_cons_zero, List.setIfInBounds_toArray, List.set_cons_zero, List.set_cons_succ]
  refine anyT_take0 (i := 6) (v := ?_) rfl (by kernel_rfl) (by kernel_rfl) (by kernel_rfl) (by kernel_rfl) (by kernel_rfl) (fun _ _ _ h => h) hC (.inl ⟨by rfl, fun _ _ => ?_⟩) ?_
  rotate_left 1
  · go_simp
    try with_reducible rfl
  simp only [Act.put, List.getElem_toArray, List.getElem_cons_succ, List.getElem_cons_zero, List.setIfInBounds_toArray, List.set_cons_zero, List.set_cons_succ]
  refine anyT_take0 (i := 7) (v := ?_) rfl (by kernel_rfl) (by kernel_rfl) (by kernel_rfl) (by kernel_rfl) (by kernel_rfl) (fun _ _ _ h => h) hC (.inl ⟨by rfl, fun _ _ => ?_⟩) ?_
  rotate_left 1
  · go_simp
    try with_reducible rfl
  simp only [Act.put, List.getElem_toArray, List.getElem_cons_succ, List.getElem_cons_zero, List.setIfInBounds_toArray, List.set_cons_zero, List.set_cons_succ]
  refine anyT_takeC (i := 8) (v := ?_) rfl (by kernel_rfl) (by kernel_rfl) (by kernel_rfl) (by kernel_rfl) (by kernel_rfl) (by kernel_rfl) (fun _ _ _ h => h) hC (.inl ⟨by rfl, fun w hCw => ?_⟩) ?_
  rotate_left 1
  · dsimp only at hCw
    go_simp
    try with_reducible rfl
  simp only [Act.put, List.getElem_toArray, List.getElem_cons_succ, List.getElem_cons_zero, List.setIfInBounds_toArray, List.set_cons_zero, List.set_cons_succ]
  refine anyT_force (i := 9) rfl (by kernel_rfl) (by rfl) ?_
  refine Lib.wp_append_run _ _ _ _ _ rfl _ _ rfl rfl _ _ HR6.out ?_
  refine ⟨fun _ => ⟨c34, hx4⟩, ?_⟩
  simp only [Act.put, List.getElem_toArray, List.getElem_cons_succ, List.getElem_cons_zero, List.setIfInBounds_toArray, List.set_cons_zero, List.set_cons_succ]
  have hC : (fun z : World => z.cell? ⟨y, 4, none⟩ = some (.slice none 0 0) ∧ z.cell? ⟨x, 4, none⟩ = some (.slice ba Q.length bc)) w6 := ⟨c34, hx4⟩
  refine anyT_take0 (i := 10) (v := ?_) rfl (by kernel_rfl) (by kernel_rfl) (by kernel_rfl) (by kernel_rfl) (by kernel_rfl) (fun _ _ _ h => h) hC (.inl ⟨by rfl, fun _ _ => ?_⟩) ?_
  rotate_left 1
  · go_simp
    try with_reducible rfl
  simp only [Act.put, List.getElem_toArray, List.getElem_cons_succ, List.getElem_cons_zero, List.setIfInBounds_toArray, List.set_cons_zero, List.set_cons_succ]
  refine anyT_take0 (i := 11) (v := ?_) rfl (by kernel_rfl) (by kernel_rfl) (by kernel_rfl) (by kernel_rfl) (by kernel_rfl) (fun _ _ _ h => h) hC (.inl ⟨by rfl, fun _ _ => ?_⟩) ?_
  rotate_left 1
  · go_simp
    try with_reducible rfl
  simp only [Act.put, List.getElem_toArray, List.getElem_cons_succ, List.getElem_cons_zero, List.setIfInBounds_toArray, List.set_cons_zero, List.set_cons_succ]
  refine anyT_tail (k := 12) (by rfl) (by kernel_rfl) (by simp) rfl rfl (by kernel_rfl) ?_
  rw [hQb] at hb6
  have hy7 : RowAt (w6.setCell ⟨y, 4, none⟩ (.slice a6 Q.length c6)) y #[.int .i64 room, .slice aa all.length ac, .int .i64 taken, .slice a4 Q.length c4, .slice a6 Q.length c6] 33 := (hy6.set 4 _).eq rfl
  have hk67 : Keeps (· = y) w6 (w6.setCell ⟨y, 4, none⟩ (.slice a6 Q.length c6)) := (Keeps.refl _ _).setCell _ _ (.inl rfl)
  have hz7 := hz6.keeps hk67 (fun b hb e => by subst e; exact hz6.apart hy6 (by decide) hb)
  have hb7 := hb6.keeps hk67 (fun b hb e => by subst e; exact hb6.apart hy6 (by decide) hb)
  have hk7 : Keeps (fun _ => False) w (w6.setCell ⟨y, 4, none⟩ (.slice a6 Q.length c6)) := (hk5.trans hk6' (fun _ _ h => h)).from hk67 (fun b e => by subst e; omega)
  have px1 : (w6.setCell ⟨y, 4, none⟩ (.slice a6 Q.length c6)).cell? ⟨x, 1, none⟩ = some (.slice aa all.length ac) := (HH.out.keeps hk7).hr.cell 1
  go_wp2
  generalize w6.setCell ⟨y, 4, none⟩ (.slice a6 Q.length c6) = W7 at *
  clear hk67 hk6 hk6' hb6 hz6 hy6 hC c34 f34 c3 hx4 hx1 HR6 hR5 hk5 hy5 hz5 px1 p0 p1 p2 q0
  obtain ⟨lim, hlim⟩ : ∃ l : Int, (all.length : Int) + (room - ((all.length : Int) - (taken : Int))) = l := ⟨_, rfl⟩
  have q1 := i64_fit ((all.length : Int) + (room - ((all.length : Int) - (taken : Int)))) (by omega) (by omega)
  go_loopw [10] (fun u10 wr => ∃ (i : Nat) (Qc : List PB) (zv bv : Value), i ≤ data.length ∧ u10 = .int .i64 i ∧ RowAt wr y #[.int .i64 room, .slice aa all.length ac, .int .i64 taken, zv, bv] 33 ∧ ZOwn wr w.heap.size zv (Qc.map (·.1)) ∧ BOwn wr w.heap.size bv (Qc.map (·.2)) ∧ Qc = addQ all.length lim Q at' (data.take i) ∧ Keeps (fun _ => False) w wr) (fun u10 _ => data.length - (intOf u10).toNat)
  case atStart => exact ⟨0, Q, _, _, Nat.zero_le _, rfl, hy7, hz7, hb7, by simp [addQ], hk7⟩
  case round =>
    obtain ⟨i, Qc, zv, bv, hi, rfl, hy8, hz8, hb8, hQc, hk8⟩ := hrel
    clear hy7 hz7 hb7 hk7
    by_cases hlt : i < data.length
    · have hQl := addQ_len all.length lim (data.take i) Q at'
      rw [← hQc, List.length_take] at hQl
      have hsn := addQ_snoc all.length lim (data.take i) Q at' data[i]
      rw [← List.take_succ_eq_append_getElem hlt, ← hQc, List.length_take, Nat.min_eq_left (by omega)] at hsn
      have hRy : RefA y room (.slice aa all.length ac) taken zv bv all Qc wr := ⟨hy8, (HH.out.keeps hk8).hA, hz8.bat.low, hb8.bat.low⟩
      have hhas := has_any y room (at' + (i : Int)) _ taken zv bv all Qc wr hRy (by omega)
      have q2 := i64_fit (at' + (i : Int)) (by omega) (by omega)
      have HROOM := Lib.hid (fun W hkW => rroom_any x room _ taken _ _ all Q W ((HH.out.keeps hk8).keeps hkW) hr1 (by omega) (by omega) h4)
      unfold hasV at hhas
      unfold add1 at hsn
      have HY8 := Lib.hid hy8
      have HZ8 := Lib.hid hz8
      have HB8 := Lib.hid hb8
      have HK8 := Lib.hid hk8
      clear hy8 hz8 hb8 hk8 hRy hQc
      cases hq : hasQ Qc (at' + (i : Int)) with
      | some b0 =>
        rw [hq] at hhas
        rw [if_neg (by rw [hq]; rintro ⟨-, -, h⟩; cases h)] at hsn
        have HHAS := Lib.hid hhas
        have HSN := Lib.hid hsn
        clear hhas hsn hq
        by_cases c1 : (all.length : Int) ≤ at' + (i : Int)
        · by_cases c2 : at' + (i : Int) < (all.length : Int) + (room - ((all.length : Int) - (taken : Int)))
          · go_wp2_with fail
            refine HHAS.out.mono ?_
            rintro e w9 ⟨rfl, rfl⟩
            go_wp2_with (go_at_call 18; refine (HROOM.out _ (Keeps.refl _ _)).mono ?_; rintro e w8 ⟨rfl, m8, rfl⟩)
            go_roundw
            case rel => exact ⟨i + 1, Qc, zv, bv, by omega, by go_num, HY8.out.drewN m8, HZ8.out.keeps ((Keeps.refl (fun _ => False) wr).drewN m8) (fun _ _ h => h), HB8.out.keeps ((Keeps.refl (fun _ => False) wr).drewN m8) (fun _ _ h => h), HSN.out.symm, HK8.out.drewN m8⟩
            case measure => simp [intOf]; omega
          · go_wp2_with fail
            refine HHAS.out.mono ?_
            rintro e w9 ⟨rfl, rfl⟩
            go_wp2_with (go_at_call 18; refine (HROOM.out _ (Keeps.refl _ _)).mono ?_; rintro e w8 ⟨rfl, m8, rfl⟩)
            go_roundw
            case rel => exact ⟨i + 1, Qc, zv, bv, by omega, by go_num, HY8.out.drewN m8, HZ8.out.keeps ((Keeps.refl (fun _ => False) wr).drewN m8) (fun _ _ h => h), HB8.out.keeps ((Keeps.refl (fun _ => False) wr).drewN m8) (fun _ _ h => h), HSN.out.symm, HK8.out.drewN m8⟩
            case measure => simp [intOf]; omega
        · go_wp2_with fail
          refine HHAS.out.mono ?_
          rintro e w9 ⟨rfl, rfl⟩
          go_wp2_with fail
          go_roundw
          case rel => exact ⟨i + 1, Qc, zv, bv, by omega, by go_num, HY8.out.drewN 0, HZ8.out.keeps ((Keeps.refl (fun _ => False) wr).drewN 0) (fun _ _ h => h), HB8.out.keeps ((Keeps.refl (fun _ => False) wr).drewN 0) (fun _ _ h => h), HSN.out.symm, HK8.out.drewN 0⟩
          case measure => simp [intOf]; omega
      | none =>
        rw [hq] at hhas
        rw [hq] at hsn
        have HHAS := Lib.hid hhas
        clear hhas hq
        by_cases c1 : (all.length : Int) ≤ at' + (i : Int)
        · by_cases c2 : at' + (i : Int) < (all.length : Int) + (room - ((all.length : Int) - (taken : Int)))
          · rw [if_pos ⟨c1, by omega, rfl⟩] at hsn
            have HSN := Lib.hid hsn
            clear hsn
            go_wp2_with fail
            refine HHAS.out.mono ?_
            rintro e w9 ⟨rfl, rfl⟩
            go_wp2_with fail
            refine (HROOM.out _ (Keeps.refl _ _)).mono ?_
            rintro e w8 ⟨rfl, m8, rfl⟩
            have hkd : Keeps (fun _ => False) wr (wr.drewN m8) := (Keeps.refl _ _).drewN m8
            have hy9 := HY8.out.drewN m8
            have hz9 := HZ8.out.keeps hkd (fun _ _ h => h)
            have hb9 := HB8.out.keeps hkd (fun _ _ h => h)
            have hk9 := HK8.out.drewN m8
            clear HY8 HZ8 HB8 HK8 HROOM HHAS hkd
            generalize wr.drewN m8 = W8 at *
            obtain ⟨z8, zc8, rfl, -, -⟩ := ZAt.slice hz9.bat
            obtain ⟨b8, bc8, rfl, -, -⟩ := BOwn.slice hb9
            have hQcz : (Qc.map (·.1)).length = Qc.length := List.length_map _
            have hQcb : (Qc.map (·.2)).length = Qc.length := List.length_map _
            have hk9s := hk9.size
            have hzl := ZAt.lit W8 #[.int .i64 (at' + (i : Int))] [at' + (i : Int)] 1 3 rfl rfl (by omega)
            have hka := (Keeps.refl (fun _ => False) W8).alloc (.cells #[.int .i64 (at' + (i : Int))] 3)
            obtain ⟨vz, wz, hrun, hza, hkz, -⟩ := run_append_ints (ty := 31) (hz9.keeps hka (fun _ _ h => h)) hzl (by rw [List.length_map]; simp; omega) (by have := hka.size; omega)
            have hza2 : ZOwn wz w.heap.size vz ((Qc ++ [(at' + (i : Int), data[i])]).map (·.1)) := by rw [List.map_append]; exact hza
            obtain ⟨az, cz, rfl, -, -⟩ := ZAt.slice hza2.bat
            have hQ9l : ((Qc ++ [(at' + (i : Int), data[i])]).map (·.1)).length = Qc.length + 1 := by simp
            have hgz := hz9.apart hy9 (by decide)
            have hy10 := (hy9.alloc (.cells #[.int .i64 (at' + (i : Int))] 3)).keeps hkz hgz
            have hb10 := (hb9.keeps hka (fun _ _ h => h)).keeps hkz (fun b hb e => hz9.apartB hb9 b e hb)
            have hk10 := (hk9.trans hka (fun _ _ h => h)).from hkz (fun b hb => (hz9.block b hb).1)
            have p3 : W8.cell? ⟨y, 3, none⟩ = some (.slice z8 Qc.length zc8) := by have := hy9.cell 3; rw [hQcz] at this; exact this
            have p39 : wz.cell? ⟨y, 3, none⟩ = some (.slice z8 Qc.length zc8) := by have := hy10.cell 3; rw [hQcz] at this; exact this
            have f39 := hy10.frozen 3
            rw [hQcz, hQ9l] at hrun
            have HRZ := Lib.hid hrun
            have hy11 : RowAt (wz.setCell ⟨y, 3, none⟩ (.slice az (Qc.length + 1) cz)) y #[.int .i64 room, .slice aa all.length ac, .int .i64 taken, .slice az (Qc.length + 1) cz, .slice b8 (Qc.map (·.2)).length bc8] 33 := (hy10.set 3 _).eq rfl
            have hks : Keeps (· = y) wz (wz.setCell ⟨y, 3, none⟩ (.slice az (Qc.length + 1) cz)) := (Keeps.refl _ _).setCell _ _ (.inl rfl)
            have hz11 := hza2.keeps hks (fun b hb e => by subst e; exact hza2.apart hy10 (by decide) hb)
            have hb11 := hb10.keeps hks (fun b hb e => by subst e; exact hb10.apart hy10 (by decide) hb)
            have hk11 := hk10.from hks (fun b e => by subst e; omega)
            have HY := Lib.hid hy11
            have HZ := Lib.hid hz11
            have HB := Lib.hid hb11
            have HK := Lib.hid hk11
            clear hrun hy11 hz11 hb11 hk11 hks hy10 hb10 hk10 hza hza2 hkz hzl hka hgz
            go_wp2_with (at_builtin; refine Lib.wpList_append_run _ rfl _ _ _ _ rfl _ _ rfl rfl _ _ HRZ.out ?_)
            obtain ⟨db, do_, dc', he, -, -, -, hdcell⟩ := BAt.get HDD.out (by omega)
            obtain ⟨rfl, -, rfl⟩ : da = some ⟨db, do_, none⟩ ∧ True ∧ dc = dc' := by
              simp only [Value.slice.injEq] at he
              exact ⟨he.1, trivial, he.2.2⟩
            have d0 := HK.out.cell (hdcell i hlt) (fun h => h)
            clear he hdcell HRZ p3 p39 f39 hy9 hz9 hb9 hk9
            generalize wz.setCell ⟨y, 3, none⟩ (.slice az (Qc.length + 1) cz) = W9 at *
            obtain ⟨db1, hdb1⟩ : ∃ c : UInt8, data[i] = c := ⟨_, rfl⟩
            rw [hdb1] at d0
            have p4 : W9.cell? ⟨y, 4, none⟩ = some (.slice b8 Qc.length bc8) := by have := HY.out.cell 4; rw [hQcb] at this; exact this
            have hKs := HK.out.size
            have hka := (Keeps.refl (fun _ => False) W9).drew.alloc (.cells #[.int .u8 (db1.toNat : Int)] 5)
            have hbl := BAt.one W9.drew (db1.toNat : Int) db1 5 rfl
            obtain ⟨v7, w7, hrun7, hb7, hk7, -⟩ := run_append_bytes (ty := 30) (HB.out.keeps hka (fun _ _ h => h)) hbl (by rw [List.length_map]; simp; omega) (by have := hka.size; omega)
            have hb7' : BOwn w7 w.heap.size v7 ((Qc ++ [(at' + (i : Int), db1)]).map (·.2)) := by rw [List.map_append]; exact hb7
            obtain ⟨a7, c7, rfl, -, -⟩ := BOwn.slice hb7'
            have hQ7l : ((Qc ++ [(at' + (i : Int), db1)]).map (·.2)).length = Qc.length + 1 := by simp
            have hgb := HB.out.apart HY.out (by decide)
            have hy7 := (HY.out.keeps hka (fun h => h)).keeps hk7 hgb
            have hz7 := (HZ.out.keeps hka (fun _ _ h => h)).keeps hk7 (fun b hb e => HZ.out.apartB HB.out b hb e)
            have hk77 := (HK.out.trans hka (fun _ _ h => h)).from hk7 (fun b hb => (HB.out.block b hb).1)
            have p47 : w7.cell? ⟨y, 4, none⟩ = some (.slice b8 Qc.length bc8) := by have := hy7.cell 4; rw [hQcb] at this; exact this
            have d07 := hk77.cell (w := w) (a := ⟨db, do_ + i, none⟩) (v := .int .u8 (db1.toNat : Int)) (by have := (BAt.get HDD.out (by omega)); obtain ⟨_, _, _, e9, -, -, -, h9⟩ := this; simp only [Value.slice.injEq, Option.some.injEq, Addr.mk.injEq, and_true] at e9; obtain ⟨⟨rfl, rfl⟩, -, -⟩ := e9; have := h9 i hlt; rw [hdb1] at this; exact this) (fun h => h)
            have f47 := hy7.frozen 4
            rw [hQcb, hQ7l] at hrun7
            have HR7 := Lib.hid hrun7
            clear hrun7
            refine region_T [13] (fun z => z.cell? ⟨y, 4, none⟩ = some (.slice b8 Qc.length bc8) ∧ z.cell? ⟨db, do_ + i, none⟩ = some (.int .u8 (db1.toNat : Int))) (by kernel_rfl) ?_
            have hC : (fun z : World => z.cell? ⟨y, 4, none⟩ = some (.slice b8 Qc.length bc8) ∧ z.cell? ⟨db, do_ + i, none⟩ = some (.int .u8 (db1.toNat : Int))) W9.drew := ⟨p4, d0⟩
            have hCa := hka.cell (w := W9) (a := ⟨y, 4, none⟩) p4 (fun h => h)
            have hCb := hka.cell (w := W9) (a := ⟨db, do_ + i, none⟩) d0 (fun h => h)
            refine anyT_take0 (i := 0) (v := ?_) rfl (by kernel_rfl) (by kernel_rfl) (by kernel_rfl) (by kernel_rfl) (by kernel_rfl) (fun _ _ _ h => h) hC (.inl ⟨by rfl, fun _ _ => ?_⟩) ?_
            rotate_left 1
            · go_simp
              try with_reducible rfl
            simp only [Act.put, List.getElem_toArray, List.getElem_cons_succ, List.getElem_cons_zero, List.setIfInBounds_toArray, List.set_cons_zero, List.set_cons_succ]
            refine anyT_take0 (i := 1) (v := ?_) rfl (by kernel_rfl) (by kernel_rfl) (by kernel_rfl) (by kernel_rfl) (by kernel_rfl) (fun _ _ _ h => h) hC (.inl ⟨by rfl, fun _ _ => ?_⟩) ?_
            rotate_left 1
            · go_simp
              try with_reducible rfl
            simp only [Act.put, List.getElem_toArray, List.getElem_cons_succ, List.getElem_cons_zero, List.setIfInBounds_toArray, List.set_cons_zero, List.set_cons_succ]
            refine anyT_take0 (i := 2) (v := ?_) rfl (by kernel_rfl) (by kernel_rfl) (by kernel_rfl) (by kernel_rfl) (by kernel_rfl) (fun _ _ _ h => h) hC (.inl ⟨by rfl, fun _ _ => ?_⟩) ?_
            rotate_left 1
            · go_simp
              try with_reducible rfl
            simp only [Act.put, List.getElem_toArray, List.getElem_cons_succ, List.getElem_cons_zero, List.setIfInBounds_toArray, List.set_cons_zero, List.set_cons_succ]
            refine anyT_take0 (i := 3) (v := ?_) rfl (by kernel_rfl) (by kernel_rfl) (by kernel_rfl) (by kernel_rfl) (by kernel_rfl) (fun _ _ _ h => h) hC (.inl ⟨by rfl, fun _ _ => ?_⟩) ?_
            rotate_left 1
            · go_simp
              try with_reducible rfl
            simp only [Act.put, List.getElem_toArray, List.getElem_cons_succ, List.getElem_cons_zero, List.setIfInBounds_toArray, List.set_cons_zero, List.set_cons_succ]
            refine anyT_takeC (i := 4) (v := ?_) rfl (by kernel_rfl) (by kernel_rfl) (by kernel_rfl) (by kernel_rfl) (by kernel_rfl) (by kernel_rfl) (fun _ _ _ h => h) hC (.inl ⟨by rfl, fun w hCw => ?_⟩) ?_
            rotate_left 1
            · dsimp only at hCw
              go_simp
              try with_reducible rfl
            simp only [Act.put, List.getElem_toArray, List.getElem_cons_succ, List.getElem_cons_zero, List.setIfInBounds_toArray, List.set_cons_zero, List.set_cons_succ]
            refine anyT_take0 (i := 5) (v := ?_) rfl (by kernel_rfl) (by kernel_rfl) (by kernel_rfl) (by kernel_rfl) (by kernel_rfl) (fun _ _ _ h => h) hC (.inl ⟨by rfl, fun _ _ => ?_⟩) ?_
            rotate_left 1
            · go_simp
              try with_reducible rfl
            simp only [Act.put, List.getElem_toArray, List.getElem_cons_succ, List.getElem_cons_zero, List.setIfInBounds_toArray, List.set_cons_zero, List.set_cons_succ]
            refine anyT_take0 (i := 6) (v := ?_) rfl (by kernel_rfl) (by kernel_rfl) (by kernel_rfl) (by kernel_rfl) (by kernel_rfl) (fun _ _ _ h => h) hC (.inl ⟨by rfl, fun _ _ => ?_⟩) ?_
            rotate_left 1
            · go_simp
              try with_reducible rfl
            simp only [Act.put, List.getElem_toArray, List.getElem_cons_succ, List.getElem_cons_zero, List.setIfInBounds_toArray, List.set_cons_zero, List.set_cons_succ]
            refine anyT_take0 (i := 7) (v := ?_) rfl (by kernel_rfl) (by kernel_rfl) (by kernel_rfl) (by kernel_rfl) (by kernel_rfl) (fun _ _ _ h => h) hC (.inl ⟨by rfl, fun _ _ => ?_⟩) ?_
            rotate_left 1
            · go_simp
              try with_reducible rfl
            simp only [Act.put, List.getElem_toArray, List.getElem_cons_succ, List.getElem_cons_zero, List.setIfInBounds_toArray, List.set_cons_zero, List.set_cons_succ]
            refine anyT_takeC (i := 8) (v := ?_) rfl (by kernel_rfl) (by kernel_rfl) (by kernel_rfl) (by kernel_rfl) (by kernel_rfl) (by kernel_rfl) (fun _ _ _ h => h) hC (.inl ⟨by rfl, fun w hCw => ?_⟩) ?_
            rotate_left 1
            · dsimp only at hCw
              go_simp
              try with_reducible rfl
            simp only [Act.put, List.getElem_toArray, List.getElem_cons_succ, List.getElem_cons_zero, List.setIfInBounds_toArray, List.set_cons_zero, List.set_cons_succ]
            refine anyT_force (i := 9) rfl (by kernel_rfl) (by rfl) ?_
            go_simp
            refine ⟨fun _ => ⟨hCa, hCb⟩, ?_⟩
            refine anyT_force (i := 10) rfl (by kernel_rfl) (by rfl) ?_
            refine Lib.wp_append_run _ _ _ _ _ rfl _ _ rfl rfl _ _ HR7.out ?_
            refine ⟨fun _ => ⟨p47, d07⟩, ?_⟩
            simp only [Act.put, List.getElem_toArray, List.getElem_cons_succ, List.getElem_cons_zero, List.setIfInBounds_toArray, List.set_cons_zero, List.set_cons_succ]
            have hC : (fun z : World => z.cell? ⟨y, 4, none⟩ = some (.slice b8 Qc.length bc8) ∧ z.cell? ⟨db, do_ + i, none⟩ = some (.int .u8 (db1.toNat : Int))) w7 := ⟨p47, d07⟩
            refine anyT_take0 (i := 11) (v := ?_) rfl (by kernel_rfl) (by kernel_rfl) (by kernel_rfl) (by kernel_rfl) (by kernel_rfl) (fun _ _ _ h => h) hC (.inl ⟨by rfl, fun _ _ => ?_⟩) ?_
            rotate_left 1
            · go_simp
              try with_reducible rfl
            simp only [Act.put, List.getElem_toArray, List.getElem_cons_succ, List.getElem_cons_zero, List.setIfInBounds_toArray, List.set_cons_zero, List.set_cons_succ]
            refine anyT_take0 (i := 12) (v := ?_) rfl (by kernel_rfl) (by kernel_rfl) (by kernel_rfl) (by kernel_rfl) (by kernel_rfl) (fun _ _ _ h => h) hC (.inl ⟨by rfl, fun _ _ => ?_⟩) ?_
            rotate_left 1
            · go_simp
              try with_reducible rfl
            simp only [Act.put, List.getElem_toArray, List.getElem_cons_succ, List.getElem_cons_zero, List.setIfInBounds_toArray, List.set_cons_zero, List.set_cons_succ]
            refine anyT_tail (k := 13) (by rfl) (by kernel_rfl) (by simp) rfl rfl (by kernel_rfl) ?_
            have hy8' : RowAt (w7.setCell ⟨y, 4, none⟩ (.slice a7 (Qc.length + 1) c7)) y #[.int .i64 room, .slice aa all.length ac, .int .i64 taken, .slice az (Qc.length + 1) cz, .slice a7 (Qc.length + 1) c7] 33 := (hy7.set 4 _).eq rfl
            have hks7 : Keeps (· = y) w7 (w7.setCell ⟨y, 4, none⟩ (.slice a7 (Qc.length + 1) c7)) := (Keeps.refl _ _).setCell _ _ (.inl rfl)
            rw [hQ7l] at hb7'
            rw [hQ9l] at hz7
            have hz8' := hz7.keeps hks7 (fun b hb e => by subst e; exact hz7.apart hy7 (by decide) hb)
            have hb8' := hb7'.keeps hks7 (fun b hb e => by subst e; exact hb7'.apart hy7 (by decide) hb)
            have hk8' := hk77.from hks7 (fun b e => by subst e; omega)
            rw [hdb1] at hz8'
            go_wp2
            go_roundw
            case rel => exact ⟨i + 1, _, _, _, by omega, by go_num, hy8', hz8', hb8', by rw [HSN.out, hdb1], hk8'⟩
            case measure => simp [intOf]; omega
          · rw [if_neg (by omega)] at hsn
            have HSN := Lib.hid hsn
            clear hsn
            go_wp2_with fail
            refine HHAS.out.mono ?_
            rintro e w9 ⟨rfl, rfl⟩
            go_wp2_with (go_at_call 18; refine (HROOM.out _ (Keeps.refl _ _)).mono ?_; rintro e w8 ⟨rfl, m8, rfl⟩)
            go_roundw
            case rel => exact ⟨i + 1, Qc, zv, bv, by omega, by go_num, HY8.out.drewN m8, HZ8.out.keeps ((Keeps.refl (fun _ => False) wr).drewN m8) (fun _ _ h => h), HB8.out.keeps ((Keeps.refl (fun _ => False) wr).drewN m8) (fun _ _ h => h), HSN.out.symm, HK8.out.drewN m8⟩
            case measure => simp [intOf]; omega
        · rw [if_neg (by omega)] at hsn
          have HSN := Lib.hid hsn
          clear hsn
          go_wp2_with fail
          refine HHAS.out.mono ?_
          rintro e w9 ⟨rfl, rfl⟩
          go_wp2_with fail
          go_roundw
          case rel => exact ⟨i + 1, Qc, zv, bv, by omega, by go_num, HY8.out.drewN 0, HZ8.out.keeps ((Keeps.refl (fun _ => False) wr).drewN 0) (fun _ _ h => h), HB8.out.keeps ((Keeps.refl (fun _ => False) wr).drewN 0) (fun _ _ h => h), HSN.out.symm, HK8.out.drewN 0⟩
          case measure => simp [intOf]; omega
    · obtain rfl : i = data.length := by omega
      rw [List.take_length] at hQc
      have hQ1 := addQ_len all.length lim data Q at'
      rw [← hQc] at hQ1
      go_wp2
      have hlimK := hKQ
      rw [hlim, ← hQc] at hlimK
      generalize wr = W2 at *
      have hzl2 := hz8.bat.low
      have hbl2 := hb8.bat.low
      have hA2 : BRd W2 (.slice aa all.length ac) all := (HH.out.keeps hk8).hA
      have hy2l := hy8.lt
      have hyw : w.heap.size ≤ y := by omega
      have HLK := Lib.hid hlimK
      have HZ2 := Lib.hid hz8
      have HB2 := Lib.hid hb8
      have HK2 := Lib.hid hk8
      have HA2 := Lib.hid hA2
      have hgz2 : ∀ b, zv.ownBlock = some b → b ≠ y := fun b hb e => by subst e; exact hz8.apart hy8 (by decide) hb
      have hgb2 : ∀ b, bv.ownBlock = some b → b ≠ y := fun b hb e => by subst e; exact hb8.apart hy8 (by decide) hb
      have HGZ := Lib.hid hgz2
      have HGB := Lib.hid hgb2
      have HQC := Lib.hid hQc
      have hxy : ∀ b, b < w.heap.size → b ≠ y := fun b hb => by omega
      have HXY := Lib.hid hxy
      clear hlimK hKQ hQc hz8 hb8 hk8 hA2 hzl2 hbl2 hgz2 hgb2 hxy q1
      go_loopw [] (fun wr2 => ∃ (D : List UInt8) (av : Value), D.length ≤ K ∧ RowAt wr2 y #[.int .i64 room, av, .int .i64 taken, zv, bv] 33 ∧ (BOwn wr2 w.heap.size av (all ++ D) ∨ av = .slice aa all.length ac ∧ D = []) ∧ (∀ j (hj : j < D.length), hasQ Qc ((all.length : Int) + (j : Int)) = some D[j]) ∧ Keeps (· = y) W2 wr2) (fun wr2 => K - (lenAt wr2 y - all.length))
      case atStart => exact ⟨[], _, Nat.zero_le _, hy8, .inr ⟨rfl, rfl⟩, fun j hj => absurd hj (Nat.not_lt_zero _), Keeps.refl _ _⟩
      case round =>
        obtain ⟨D, av, hDK, hyD, hAD, hDr, hkD⟩ := hrel
        have hAO := hAD
        replace hAD : BRd wr av (all ++ D) := by
          rcases hAO with h | ⟨rfl, rfl⟩
          · exact h.bat.low
          · rw [List.append_nil]; exact (HH.out.keeps (HK2.out.from hkD (fun b e => by subst e; exact hyw))).hA
        obtain ⟨aD, cD, rfl, -, -⟩ := BAt.slice hAD
        have hADl : (all ++ D).length = all.length + D.length := List.length_append
        have hzD := HZ2.out.keeps hkD (fun b hb e => HGZ.out b hb e)
        have hbD := HB2.out.keeps hkD (fun b hb e => HGB.out b hb e)
        have hRD : RefA y room (.slice aD (all ++ D).length cD) taken zv bv (all ++ D) Qc wr := ⟨hyD, hAD, hzD.bat.low, hbD.bat.low⟩
        have hhas := has_any y room ((all.length : Int) + (D.length : Int)) _ taken zv bv (all ++ D) Qc wr hRD (by omega)
        unfold hasV at hhas
        have p1 : wr.cell? ⟨y, 1, none⟩ = some (.slice aD (all.length + D.length) cD) := by have := hyD.cell 1; rw [hADl] at this; exact this
        have hla : lenAt wr y = all.length + D.length := by unfold lenAt; rw [p1]
        have HDR := Lib.hid hDr
        have HRD := Lib.hid hRD
        have HKD := Lib.hid hkD
        clear hDr hRD hkD hzD hbD hy8
        cases hq : hasQ Qc ((all.length : Int) + (D.length : Int)) with
        | some c =>
          rw [hq] at hhas
          have HHAS := Lib.hid hhas
          have hDlt : D.length < K := by
            rcases Nat.lt_or_ge D.length K with h | h
            · exact h
            · have := HLK.out ((all.length : Int) + (D.length : Int)) (by omega)
              rw [hq] at this
              cases this
          have HQ2 := Lib.hid hq
          clear hhas hq
          have hrows0 := hyD
          go_wp2_with fail
          refine HHAS.out.mono ?_
          rintro e w9 ⟨rfl, rfl⟩
          have hka := (Keeps.refl (fun _ => False) wr).alloc (.cells #[.int .u8 (c.toNat : Int)] 5)
          have hszA : (wr.alloc (.cells #[.int .u8 (c.toNat : Int)] 5)).heap.size = wr.heap.size + 1 := Array.size_push _
          have hbA := BAt.one wr (c.toNat : Int) c 5 rfl
          have hrows := (BBAt.pair (T := 30) (BRd.keeps hAD hka) hbA.low).low
          rw [hszA] at hrows
          have hfl : [all ++ D, [c]].flatten = all ++ (D ++ [c]) := by simp
          have HB3 := both_any _ [all ++ D, [c]] _ hrows (by rw [hfl]; simp; omega)
          rw [hfl, hADl] at HB3
          have HB3 := Lib.hid HB3
          clear hrows hbA
          go_wp2_with fail
          refine HB3.out.mono ?_
          rintro e w5 ⟨v5, rfl, ho5, hk5⟩
          obtain ⟨L5, hL5⟩ : ∃ L5, all ++ (D ++ [c]) = L5 := ⟨_, rfl⟩
          have hL5l : L5.length = all.length + (D.length + 1) := by rw [← hL5]; simp
          rw [hL5] at ho5
          obtain ⟨a5, c5, rfl, -, -⟩ := BOwn.slice ho5
          have hkB := hka.alloc (.cells #[.slice aD (all.length + D.length) cD, .slice (some ⟨wr.heap.size, 0, none⟩) 1 1] 30)
          have hk15 := hkB.trans hk5 (fun _ _ h => h)
          have hy5 := hrows0.keeps hk15 (fun h => h)
          have p15 := hk15.cell p1 (fun h => h)
          have f15 := hy5.frozen 1
          have hy6 : RowAt (w5.setCell ⟨y, 1, none⟩ (.slice a5 L5.length c5)) y #[.int .i64 room, .slice a5 L5.length c5, .int .i64 taken, zv, bv] 33 := (hy5.set 1 _).eq rfl
          have hk56 : Keeps (· = y) w5 (w5.setCell ⟨y, 1, none⟩ (.slice a5 L5.length c5)) := (Keeps.refl _ _).setCell _ _ (.inl rfl)
          have ho6 := ho5.keeps hk56 (fun b hb e => by subst e; exact ho5.apart hy5 (by decide) hb)
          have hkF := (HKD.out.trans hk15 (fun _ _ h => h.elim)).trans hk56 (fun _ _ h => h)
          have hdr6 : ∀ j (hj : j < (D ++ [c]).length), hasQ Qc ((all.length : Int) + (j : Int)) = some (D ++ [c])[j] := fun j hj => by
            by_cases hjd : j < D.length
            · rw [List.getElem_append_left hjd]
              exact HDR.out j hjd
            · have hjl : j = D.length := by simp at hj; omega
              subst hjl
              rw [HQ2.out]
              simp
          have hla6 : lenAt (w5.setCell ⟨y, 1, none⟩ (.slice a5 L5.length c5)) y = L5.length := by
            unfold lenAt
            rw [show (w5.setCell ⟨y, 1, none⟩ (.slice a5 L5.length c5)).cell? ⟨y, 1, none⟩ = some (.slice a5 L5.length c5) from hy6.cell 1]
          have HY6 := Lib.hid hy6
          have HO6 := Lib.hid ho6
          have HKF := Lib.hid hkF
          have HDR6 := Lib.hid hdr6
          have HL6 := Lib.hid hla6
          have HLA := Lib.hid hla
          have HL5 := Lib.hid hL5
          have HLL := Lib.hid hL5l
          clear hL5l hy6 ho6 hkF hdr6 hla6 hla hk56 hy5 hk15 hkB ho5 hk5 hka hszA hrows0 hL5 hfl hADl hyD hAD
          go_wp2
          go_roundw
          case rel => exact ⟨D ++ [c], _, by simp; omega, HY6.out, by rw [HL5.out]; exact .inl (HO6.out.mono (by have h7 := HK2.out.size; have h8 := HKD.out.size; simp only [World.alloc, Array.size_push]; omega)), HDR6.out, HKF.out⟩
          case measure => rw [HL6.out, HLA.out, HLL.out]; omega
        | none =>
          rw [hq] at hhas
          have HHAS := Lib.hid hhas
          go_wp2_with fail
          refine HHAS.out.mono ?_
          rintro e w9 ⟨rfl, rfl⟩
          go_wp2_with fail
          have hM1 : (((room.toNat + 1 : Nat)) : Int) = room + 1 := by omega
          refine (rparts_any y (room.toNat + 1) room _ taken zv bv (all ++ D) Qc wr HRD.out hM1 (by omega) (by omega) (by omega)).mono ?_
          rintro e w10 ⟨v10, rfl, hT10, hk10⟩
          obtain ⟨SC, hSC⟩ : ∃ SC, scanF (hasQ Qc) (room.toNat + 1) (((all ++ D).length : Nat) : Int) [] = SC := ⟨_, rfl⟩
          rw [hSC] at hT10
          obtain ⟨a10, c10, rfl, -, -⟩ := hT10.slice
          by_cases h64 : (64 : Int) < (SC.length : Int)
          · have hout : RPut x room (.slice aa all.length ac) taken all (addQ all.length ((all.length : Int) + (room - ((all.length : Int) - (taken : Int)))) Q at' data) w (.returned (.tuple #[.int .i64 0, .int .i64 7])) w10 := by
              rw [hlim, ← HQC.out]
              rw [hADl, Int.natCast_add] at hSC
              exact ⟨D, HDR.out, hq, .inl ⟨by rw [hSC]; omega, rfl, (HK2.out.from HKD.out (fun b e => by subst e; exact hyw)).trans hk10 (fun _ _ h => h)⟩⟩
            have HOUT := Lib.hid hout
            clear hout
            go_wp2
            go_ret2
            exact HOUT.out
          · have hkW2 : Keeps (fun _ => False) w wr := HK2.out.from HKD.out (fun b e => by subst e; exact hyw)
            have hk10w := hkW2.trans hk10 (fun _ _ h => h)
            have hx10 := (HH.out.keeps hk10w).hr
            have hy10 := HRD.out.hr.keeps hk10 (fun h => h)
            have hz10 := (HZ2.out.keeps HKD.out (fun b hb e => HGZ.out b hb e)).keeps hk10 (fun _ _ h => h)
            have hb10 := (HB2.out.keeps HKD.out (fun b hb e => HGB.out b hb e)).keeps hk10 (fun _ _ h => h)
            have hA10 := HRD.out.hA.keeps hk10
            have hyx : y ≠ x := fun e => by have := HH.out.hr.lt; omega
            rw [hADl] at hy10 hA10
            have py1 : w10.cell? ⟨y, 1, none⟩ = some (.slice aD (all.length + D.length) cD) := hy10.cell 1
            have fx1 := hx10.frozen 1
            have fx3 := hx10.frozen 3
            have fx4 := hx10.frozen 4
            have cx1 : w10.cell? ⟨x, 1, none⟩ = some _ := hx10.cell 1
            have cx3 : w10.cell? ⟨x, 3, none⟩ = some _ := hx10.cell 3
            have cx4 : w10.cell? ⟨x, 4, none⟩ = some _ := hx10.cell 4
            have hx11 : RowAt (((w10.setCell ⟨x, 1, none⟩ (.slice aD (all.length + D.length) cD)).setCell ⟨x, 3, none⟩ (.slice none 0 0)).setCell ⟨x, 4, none⟩ (.slice none 0 0)) x #[.int .i64 room, .slice aD (all.length + D.length) cD, .int .i64 taken, .slice none 0 0, .slice none 0 0] 33 := (((hx10.set 1 _).set 3 _).set 4 _).eq rfl
            have hks : Keeps (· = x) w10 (((w10.setCell ⟨x, 1, none⟩ (.slice aD (all.length + D.length) cD)).setCell ⟨x, 3, none⟩ (.slice none 0 0)).setCell ⟨x, 4, none⟩ (.slice none 0 0)) := (((Keeps.refl (· = x) w10).setCell _ _ (.inl rfl)).setCell _ _ (.inl rfl)).setCell _ _ (.inl rfl)
            have HAO := Lib.hid (show BOwn w10 w.heap.size (.slice aD (all ++ D).length cD) (all ++ D) ∨ Value.slice aD (all ++ D).length cD = .slice aa all.length ac ∧ D = [] from hAO.imp (fun h => h.keeps hk10 (fun _ _ h => h)) id)
            have HX := Lib.hid hx11
            have HKS := Lib.hid hks
            have HY := Lib.hid hy10
            have HZ := Lib.hid hz10
            have HB := Lib.hid hb10
            have HA := Lib.hid hA10
            have HKW := Lib.hid hk10w
            clear hx11 hks hx10 hy10 hz10 hb10 hA10 hk10w hkW2 hT10 hk10 HHAS hhas
            go_wp2
            generalize ((w10.setCell ⟨x, 1, none⟩ (.slice aD (all.length + D.length) cD)).setCell ⟨x, 3, none⟩ (.slice none 0 0)).setCell ⟨x, 4, none⟩ (.slice none 0 0) = W11 at *
            clear cx1 cx3 cx4 fx1 fx3 fx4
            obtain ⟨za2, zc2, rfl, -, -⟩ := ZAt.slice HZ.out.bat
            obtain ⟨ba2, bc2, rfl, -, -⟩ := BOwn.slice HB.out
            have hQcz : (Qc.map (·.1)).length = Qc.length := List.length_map _
            have hQcb : (Qc.map (·.2)).length = Qc.length := List.length_map _
            have py3 : w10.cell? ⟨y, 3, none⟩ = some (.slice za2 Qc.length zc2) := by have := HY.out.cell 3; rw [hQcz] at this; exact this
            have hxw : x < w.heap.size := HH.out.hr.lt
            go_loopw [15] (fun u15 wr3 => ∃ (k : Nat) (G : List PB) (z3 b3 : Value), k ≤ Qc.length ∧ u15 = .int .i64 k ∧ RowAt wr3 x #[.int .i64 room, .slice aD (all.length + D.length) cD, .int .i64 taken, z3, b3] 33 ∧ ZOwn wr3 w10.heap.size z3 (G.map (·.1)) ∧ BOwn wr3 w10.heap.size b3 (G.map (·.2)) ∧ G = (Qc.take k).filter (fun p => decide (((all.length : Int) + (D.length : Int)) ≤ p.1)) ∧ Keeps (· = x) w10 wr3) (fun u15 _ => Qc.length - (intOf u15).toNat)
            case atStart => exact ⟨0, [], _, _, Nat.zero_le _, rfl, HX.out, ZOwn.nil _ _, BOwn.nil _ _, rfl, HKS.out⟩
            case round =>
              obtain ⟨k, G, z3, b3, hk3, rfl, hx3, hz3, hb3, hG, hkw3⟩ := hrel
              clear py1 py3
              by_cases hlt3 : k < Qc.length
              · have hGl : G.length ≤ Qc.length := by rw [hG]; exact Nat.le_trans (List.length_filter_le _ _) (by rw [List.length_take]; omega)
                have hGs : (Qc.take (k + 1)).filter (fun p => decide (((all.length : Int) + (D.length : Int)) ≤ p.1)) = if ((all.length : Int) + (D.length : Int)) ≤ Qc[k].1 then G ++ [Qc[k]] else G := by
                  rw [List.take_succ_eq_append_getElem hlt3, List.filter_append, ← hG]
                  split
                  · rename_i h; simp [h]
                  · rename_i h; simp [h]
                have hy3 := HY.out.keeps hkw3 hyx
                have hzz := HZ.out.keeps hkw3 (fun b hb e => by have := (HZ.out.block b hb).1; omega)
                have hbb := HB.out.keeps hkw3 (fun b hb e => by have := (HB.out.block b hb).1; omega)
                obtain ⟨zb, zo, zc', hze, -, -, -, hzcell⟩ := ZAt.get hzz.bat (by rw [hQcz]; omega)
                obtain ⟨bb, bo, bc', hbe, -, -, -, hbcell⟩ := BAt.get hbb.bat (by rw [hQcb]; omega)
                obtain ⟨rfl, -, rfl⟩ : za2 = some ⟨zb, zo, none⟩ ∧ True ∧ zc2 = zc' := by
                  simp only [Value.slice.injEq] at hze
                  exact ⟨hze.1, trivial, hze.2.2⟩
                obtain ⟨rfl, -, rfl⟩ : ba2 = some ⟨bb, bo, none⟩ ∧ True ∧ bc2 = bc' := by
                  simp only [Value.slice.injEq] at hbe
                  exact ⟨hbe.1, trivial, hbe.2.2⟩
                have z0 := hzcell k (by rw [hQcz]; exact hlt3)
                have b0 := hbcell k (by rw [hQcb]; exact hlt3)
                rw [List.getElem_map] at z0 b0
                obtain ⟨q, hq9⟩ : ∃ q, Qc[k] = q := ⟨_, rfl⟩
                rw [hq9] at z0 b0 hGs
                obtain ⟨t, c⟩ := q
                simp only at z0 b0 hGs
                have s1 : wr.cell? ⟨y, 1, none⟩ = some (.slice aD (all.length + D.length) cD) := hy3.cell 1
                have s3 : wr.cell? ⟨y, 3, none⟩ = some (.slice (some ⟨zb, zo, none⟩) Qc.length zc2) := by have := hy3.cell 3; rw [hQcz] at this; exact this
                have s4 : wr.cell? ⟨y, 4, none⟩ = some (.slice (some ⟨bb, bo, none⟩) Qc.length bc2) := by have := hy3.cell 4; rw [hQcb] at this; exact this
                have HGS := Lib.hid hGs
                have HX3 := Lib.hid hx3
                have HZ3 := Lib.hid hz3
                have HB3 := Lib.hid hb3
                have HK3 := Lib.hid hkw3
                clear hGs hx3 hz3 hb3 hkw3 hG hze hbe hzcell hbcell hzz hbb hq9 hQcz hQcb hy3
                by_cases hin : ((all.length : Int) + (D.length : Int)) ≤ t
                · go_wp2
                  refine region_draws_tail 12 (by kernel_rfl) (by kernel_rfl) ?_
                  simp only [List.take_succ_cons, List.take_zero, List.drop_succ_cons, List.drop_zero]
                  repeat (go_big_quiet_step (fail))
                  refine wpQuiet_nil ?_
                  rintro _ ⟨nq, rfl⟩
                  go_wp2
                  have hkd : Keeps (fun _ => False) wr (wr.drewN nq) := (Keeps.refl _ _).drewN nq
                  have hx9 := HX3.out.drewN nq
                  have hz9 := HZ3.out.keeps hkd (fun _ _ h => h)
                  have hb9 := HB3.out.keeps hkd (fun _ _ h => h)
                  have hk9 := HK3.out.drewN nq
                  have s39 := hkd.cell s3 (fun h => h)
                  have s49 := hkd.cell s4 (fun h => h)
                  have z09 := hkd.cell z0 (fun h => h)
                  have b09 := hkd.cell b0 (fun h => h)
                  clear s1 s3 s4 z0 b0 HX3 HZ3 HB3 HK3 hkd
                  generalize wr.drewN nq = W8 at *
                  obtain ⟨z8, zc8, rfl, -, -⟩ := ZAt.slice hz9.bat
                  obtain ⟨b8, bc8, rfl, -, -⟩ := BOwn.slice hb9
                  have hGz : (G.map (·.1)).length = G.length := List.length_map _
                  have hGb : (G.map (·.2)).length = G.length := List.length_map _
                  have hk9s := hk9.size
                  have hyb : y < w10.heap.size := HY.out.lt
                  have hzb : zb < w10.heap.size := (HZ.out.block zb rfl).2
                  have hbb : bb < w10.heap.size := (HB.out.block bb rfl).2
                  have hzl := ZAt.lit W8.drew #[.int .i64 t] [t] 1 3 rfl rfl (by omega)
                  have hka := (Keeps.refl (fun _ => False) W8).drew.alloc (.cells #[.int .i64 t] 3)
                  obtain ⟨vz, wz, hrun, hza, hkz, -⟩ := run_append_ints (ty := 31) (hz9.keeps hka (fun _ _ h => h)) hzl (by rw [List.length_map]; simp; omega) (by have := hka.size; omega)
                  have hza2 : ZOwn wz w10.heap.size vz ((G ++ [(t, c)]).map (·.1)) := by rw [List.map_append]; exact hza
                  obtain ⟨az, cz, rfl, -, -⟩ := ZAt.slice hza2.bat
                  have hQ9l : ((G ++ [(t, c)]).map (·.1)).length = G.length + 1 := by simp
                  have hgz := hz9.apart hx9 (by decide)
                  have hgb := fun b hb => (hz9.block b hb).1
                  have hx10 := (hx9.keeps hka (fun h => h)).keeps hkz hgz
                  have hb10 := (hb9.keeps hka (fun _ _ h => h)).keeps hkz (fun b hb e => hz9.apartB hb9 b e hb)
                  have hk10' := (hk9.trans hka (fun _ _ h => h.elim)).trans hkz (fun b h e => by have := hgb b e; omega)
                  have p3 : W8.cell? ⟨x, 3, none⟩ = some (.slice z8 G.length zc8) := by have := hx9.cell 3; rw [hGz] at this; exact this
                  have p39 : wz.cell? ⟨x, 3, none⟩ = some (.slice z8 G.length zc8) := by have := hx10.cell 3; rw [hGz] at this; exact this
                  have hC1 := hka.cell p3 (fun h => h)
                  have hC2 := hka.cell s39 (fun h => h)
                  have hC3 := hka.cell z09 (fun h => h)
                  have hC4 := hkz.cell hC2 (fun e => by have := hgb _ e; simp only at this; omega)
                  have hC5 := hkz.cell hC3 (fun e => by have := hgb _ e; simp only at this; omega)
                  have f39 := hx10.frozen 3
                  have s410 := hkz.cell (hka.cell s49 (fun h => h)) (fun e => by have := hgb _ e; simp only at this; omega)
                  have b010 := hkz.cell (hka.cell b09 (fun h => h)) (fun e => by have := hgb _ e; simp only at this; omega)
                  rw [hGz, hQ9l] at hrun
                  have HRZ := Lib.hid hrun
                  clear hrun
                  refine region_T [16] (fun z => z.cell? ⟨x, 3, none⟩ = some (.slice z8 G.length zc8) ∧ z.cell? ⟨y, 3, none⟩ = some (.slice (some ⟨zb, zo, none⟩) Qc.length zc2) ∧ z.cell? ⟨zb, zo + k, none⟩ = some (.int .i64 t)) (by kernel_rfl) ?_
                  have hC : (fun z : World => z.cell? ⟨x, 3, none⟩ = some (.slice z8 G.length zc8) ∧ z.cell? ⟨y, 3, none⟩ = some (.slice (some ⟨zb, zo, none⟩) Qc.length zc2) ∧ z.cell? ⟨zb, zo + k, none⟩ = some (.int .i64 t)) W8.drew := ⟨p3, s39, z09⟩
                  refine anyT_take0 (i := 0) (v := ?_) rfl (by kernel_rfl) (by kernel_rfl) (by kernel_rfl) (by kernel_rfl) (by kernel_rfl) (fun _ _ _ h => h) hC (.inl ⟨by rfl, fun _ _ => ?_⟩) ?_
                  rotate_left 1
                  · go_simp
                    try with_reducible rfl
                  simp only [Act.put, List.getElem_toArray, List.getElem_cons_succ, List.getElem_cons_zero, List.setIfInBounds_toArray, List.set_cons_zero, List.set_cons_succ]
                  refine anyT_take0 (i := 1) (v := ?_) rfl (by kernel_rfl) (by kernel_rfl) (by kernel_rfl) (by kernel_rfl) (by kernel_rfl) (fun _ _ _ h => h) hC (.inl ⟨by rfl, fun _ _ => ?_⟩) ?_
                  rotate_left 1
                  · go_simp
                    try with_reducible rfl
                  simp only [Act.put, List.getElem_toArray, List.getElem_cons_succ, List.getElem_cons_zero, List.setIfInBounds_toArray, List.set_cons_zero, List.set_cons_succ]
                  refine anyT_take0 (i := 2) (v := ?_) rfl (by kernel_rfl) (by kernel_rfl) (by kernel_rfl) (by kernel_rfl) (by kernel_rfl) (fun _ _ _ h => h) hC (.inl ⟨by rfl, fun _ _ => ?_⟩) ?_
                  rotate_left 1
                  · go_simp
                    try with_reducible rfl
                  simp only [Act.put, List.getElem_toArray, List.getElem_cons_succ, List.getElem_cons_zero, List.setIfInBounds_toArray, List.set_cons_zero, List.set_cons_succ]
                  refine anyT_take0 (i := 3) (v := ?_) rfl (by kernel_rfl) (by kernel_rfl) (by kernel_rfl) (by kernel_rfl) (by kernel_rfl) (fun _ _ _ h => h) hC (.inl ⟨by rfl, fun _ _ => ?_⟩) ?_
                  rotate_left 1
                  · go_simp
                    try with_reducible rfl
                  simp only [Act.put, List.getElem_toArray, List.getElem_cons_succ, List.getElem_cons_zero, List.setIfInBounds_toArray, List.set_cons_zero, List.set_cons_succ]
                  refine anyT_takeC (i := 4) (v := ?_) rfl (by kernel_rfl) (by kernel_rfl) (by kernel_rfl) (by kernel_rfl) (by kernel_rfl) (by kernel_rfl) (fun _ _ _ h => h) hC (.inl ⟨by rfl, fun w hCw => ?_⟩) ?_
                  rotate_left 1
                  · dsimp only at hCw
                    go_simp
                    try with_reducible rfl
                  simp only [Act.put, List.getElem_toArray, List.getElem_cons_succ, List.getElem_cons_zero, List.setIfInBounds_toArray, List.set_cons_zero, List.set_cons_succ]
                  refine anyT_take0 (i := 5) (v := ?_) rfl (by kernel_rfl) (by kernel_rfl) (by kernel_rfl) (by kernel_rfl) (by kernel_rfl) (fun _ _ _ h => h) hC (.inl ⟨by rfl, fun _ _ => ?_⟩) ?_
                  rotate_left 1
                  · go_simp
                    try with_reducible rfl
                  simp only [Act.put, List.getElem_toArray, List.getElem_cons_succ, List.getElem_cons_zero, List.setIfInBounds_toArray, List.set_cons_zero, List.set_cons_succ]
                  refine anyT_take0 (i := 6) (v := ?_) rfl (by kernel_rfl) (by kernel_rfl) (by kernel_rfl) (by kernel_rfl) (by kernel_rfl) (fun _ _ _ h => h) hC (.inl ⟨by rfl, fun _ _ => ?_⟩) ?_
                  rotate_left 1
                  · go_simp
                    try with_reducible rfl
                  simp only [Act.put, List.getElem_toArray, List.getElem_cons_succ, List.getElem_cons_zero, List.setIfInBounds_toArray, List.set_cons_zero, List.set_cons_succ]
                  refine anyT_take0 (i := 7) (v := ?_) rfl (by kernel_rfl) (by kernel_rfl) (by kernel_rfl) (by kernel_rfl) (by kernel_rfl) (fun _ _ _ h => h) hC (.inl ⟨by rfl, fun _ _ => ?_⟩) ?_
                  rotate_left 1
                  · go_simp
                    try with_reducible rfl
                  simp only [Act.put, List.getElem_toArray, List.getElem_cons_succ, List.getElem_cons_zero, List.setIfInBounds_toArray, List.set_cons_zero, List.set_cons_succ]
                  refine anyT_takeC (i := 8) (v := ?_) rfl (by kernel_rfl) (by kernel_rfl) (by kernel_rfl) (by kernel_rfl) (by kernel_rfl) (by kernel_rfl) (fun _ _ _ h => h) hC (.inl ⟨by rfl, fun w hCw => ?_⟩) ?_
                  rotate_left 1
                  · dsimp only at hCw
                    go_simp
                    try with_reducible rfl
                  simp only [Act.put, List.getElem_toArray, List.getElem_cons_succ, List.getElem_cons_zero, List.setIfInBounds_toArray, List.set_cons_zero, List.set_cons_succ]
                  refine anyT_take0 (i := 9) (v := ?_) rfl (by kernel_rfl) (by kernel_rfl) (by kernel_rfl) (by kernel_rfl) (by kernel_rfl) (fun _ _ _ h => h) hC (.inl ⟨by rfl, fun _ _ => ?_⟩) ?_
                  rotate_left 1
                  · go_simp
                    try with_reducible rfl
                  simp only [Act.put, List.getElem_toArray, List.getElem_cons_succ, List.getElem_cons_zero, List.setIfInBounds_toArray, List.set_cons_zero, List.set_cons_succ]
                  refine anyT_take0 (i := 10) (v := ?_) rfl (by kernel_rfl) (by kernel_rfl) (by kernel_rfl) (by kernel_rfl) (by kernel_rfl) (fun _ _ _ h => h) hC (.inl ⟨by rfl, fun _ _ => ?_⟩) ?_
                  rotate_left 1
                  · go_simp
                    try with_reducible rfl
                  simp only [Act.put, List.getElem_toArray, List.getElem_cons_succ, List.getElem_cons_zero, List.setIfInBounds_toArray, List.set_cons_zero, List.set_cons_succ]
                  refine anyT_takeC (i := 11) (v := ?_) rfl (by kernel_rfl) (by kernel_rfl) (by kernel_rfl) (by kernel_rfl) (by kernel_rfl) (by kernel_rfl) (fun _ _ _ h => h) hC (.inl ⟨by rfl, fun w hCw => ?_⟩) ?_
                  rotate_left 1
                  · dsimp only at hCw
                    go_simp
                    try with_reducible rfl
                  simp only [Act.put, List.getElem_toArray, List.getElem_cons_succ, List.getElem_cons_zero, List.setIfInBounds_toArray, List.set_cons_zero, List.set_cons_succ]
                  refine anyT_force (i := 12) rfl (by kernel_rfl) (by rfl) ?_
                  go_simp
                  refine ⟨fun _ => ⟨hC1, hC2, hC3⟩, ?_⟩
                  refine anyT_force (i := 13) rfl (by kernel_rfl) (by rfl) ?_
                  refine Lib.wp_append_run _ _ _ _ _ rfl _ _ rfl rfl _ _ HRZ.out ?_
                  refine ⟨fun _ => ⟨p39, hC4, hC5⟩, ?_⟩
                  simp only [Act.put, List.getElem_toArray, List.getElem_cons_succ, List.getElem_cons_zero, List.setIfInBounds_toArray, List.set_cons_zero, List.set_cons_succ]
                  have hC : (fun z : World => z.cell? ⟨x, 3, none⟩ = some (.slice z8 G.length zc8) ∧ z.cell? ⟨y, 3, none⟩ = some (.slice (some ⟨zb, zo, none⟩) Qc.length zc2) ∧ z.cell? ⟨zb, zo + k, none⟩ = some (.int .i64 t)) wz := ⟨p39, hC4, hC5⟩
                  refine anyT_take0 (i := 14) (v := ?_) rfl (by kernel_rfl) (by kernel_rfl) (by kernel_rfl) (by kernel_rfl) (by kernel_rfl) (fun _ _ _ h => h) hC (.inl ⟨by rfl, fun _ _ => ?_⟩) ?_
                  rotate_left 1
                  · go_simp
                    try with_reducible rfl
                  simp only [Act.put, List.getElem_toArray, List.getElem_cons_succ, List.getElem_cons_zero, List.setIfInBounds_toArray, List.set_cons_zero, List.set_cons_succ]
                  refine anyT_take0 (i := 15) (v := ?_) rfl (by kernel_rfl) (by kernel_rfl) (by kernel_rfl) (by kernel_rfl) (by kernel_rfl) (fun _ _ _ h => h) hC (.inl ⟨by rfl, fun _ _ => ?_⟩) ?_
                  rotate_left 1
                  · go_simp
                    try with_reducible rfl
                  simp only [Act.put, List.getElem_toArray, List.getElem_cons_succ, List.getElem_cons_zero, List.setIfInBounds_toArray, List.set_cons_zero, List.set_cons_succ]
                  refine anyT_tail (k := 16) (by rfl) (by kernel_rfl) (by simp) rfl rfl (by kernel_rfl) ?_
                  have hx11 : RowAt (wz.setCell ⟨x, 3, none⟩ (.slice az (G.length + 1) cz)) x #[.int .i64 room, .slice aD (all.length + D.length) cD, .int .i64 taken, .slice az (G.length + 1) cz, .slice b8 (G.map (·.2)).length bc8] 33 := (hx10.set 3 _).eq rfl
                  have hks : Keeps (· = x) wz (wz.setCell ⟨x, 3, none⟩ (.slice az (G.length + 1) cz)) := (Keeps.refl _ _).setCell _ _ (.inl rfl)
                  have hz11 := hza2.keeps hks (fun b hb e => by subst e; exact hza2.apart hx10 (by decide) hb)
                  have hb11 := hb10.keeps hks (fun b hb e => by subst e; exact hb10.apart hx10 (by decide) hb)
                  have hk11 := hk10'.trans hks (fun _ _ h => h)
                  have s411 := hks.cell s410 (fun e => hyx e)
                  have b011 := hks.cell b010 (fun e => by have := (HB.out.block bb rfl).1; simp only at e; omega)
                  rw [hQ9l] at hz11
                  clear hks hx10 hb10 hk10' hza hza2 hkz hzl hka hgz hgb p3 hC hC1 hC2 hC3 hC4 hC5 s410 b010 s39 s49 z09 b09 hx9 hz9 hb9 hk9 HRZ hk9s hQ9l
                  have HX11 := Lib.hid hx11
                  have HZ11 := Lib.hid hz11
                  have HB11 := Lib.hid hb11
                  have HK11 := Lib.hid hk11
                  clear hx11 hz11 hb11 hk11
                  go_wp2
                  generalize wz.setCell ⟨x, 3, none⟩ (.slice az (G.length + 1) cz) = W9 at *
                  clear p39 f39
                  have hx11 := HX11.out
                  have hz11 := HZ11.out
                  have hb11 := HB11.out
                  have hk11 := HK11.out
                  clear HX11 HZ11 HB11 HK11
                  have hk9s := hk11.size
                  have hbl := BAt.one W9.drew (c.toNat : Int) c 5 rfl
                  have hka := (Keeps.refl (fun _ => False) W9).drew.alloc (.cells #[.int .u8 (c.toNat : Int)] 5)
                  obtain ⟨vb, wb, hrun, hba, hkb, -⟩ := run_append_bytes (ty := 30) (hb11.keeps hka (fun _ _ h => h)) hbl (by rw [List.length_map]; simp; omega) (by have := hka.size; omega)
                  have hba2 : BOwn wb w10.heap.size vb ((G ++ [(t, c)]).map (·.2)) := by rw [List.map_append]; exact hba
                  obtain ⟨ab, cb, rfl, -, -⟩ := BOwn.slice hba2
                  have hQ9l : ((G ++ [(t, c)]).map (·.2)).length = G.length + 1 := by simp
                  have hgz := hb11.apart hx11 (by decide)
                  have hgb := fun b hb => (hb11.block b hb).1
                  have hx12 := (hx11.keeps hka (fun h => h)).keeps hkb hgz
                  have hz12 := (hz11.keeps hka (fun _ _ h => h)).keeps hkb (fun b hb e => hz11.apartB hb11 b hb e)
                  have hk12 := (hk11.trans hka (fun _ _ h => h.elim)).trans hkb (fun b h e => by have := hgb b e; omega)
                  have p4 : W9.cell? ⟨x, 4, none⟩ = some (.slice b8 G.length bc8) := by have := hx11.cell 4; rw [hGb] at this; exact this
                  have p49 : wb.cell? ⟨x, 4, none⟩ = some (.slice b8 G.length bc8) := by have := hx12.cell 4; rw [hGb] at this; exact this
                  have hC1 := hka.cell p4 (fun h => h)
                  have hC2 := hka.cell s411 (fun h => h)
                  have hC3 := hka.cell b011 (fun h => h)
                  have hC4 := hkb.cell hC2 (fun e => by have := hgb _ e; simp only at this; omega)
                  have hC5 := hkb.cell hC3 (fun e => by have := hgb _ e; simp only at this; omega)
                  have f49 := hx12.frozen 4
                  rw [hGb, hQ9l] at hrun
                  have HRZ := Lib.hid hrun
                  clear hrun
                  refine region_T [16] (fun z => z.cell? ⟨x, 4, none⟩ = some (.slice b8 G.length bc8) ∧ z.cell? ⟨y, 4, none⟩ = some (.slice (some ⟨bb, bo, none⟩) Qc.length bc2) ∧ z.cell? ⟨bb, bo + k, none⟩ = some (.int .u8 (c.toNat : Int))) (by kernel_rfl) ?_
                  have hC : (fun z : World => z.cell? ⟨x, 4, none⟩ = some (.slice b8 G.length bc8) ∧ z.cell? ⟨y, 4, none⟩ = some (.slice (some ⟨bb, bo, none⟩) Qc.length bc2) ∧ z.cell? ⟨bb, bo + k, none⟩ = some (.int .u8 (c.toNat : Int))) W9.drew := ⟨p4, s411, b011⟩
                  refine anyT_take0 (i := 0) (v := ?_) rfl (by kernel_rfl) (by kernel_rfl) (by kernel_rfl) (by kernel_rfl) (by kernel_rfl) (fun _ _ _ h => h) hC (.inl ⟨by rfl, fun _ _ => ?_⟩) ?_
                  rotate_left 1
                  · go_simp
                    try with_reducible rfl
                  simp only [Act.put, List.getElem_toArray, List.getElem_cons_succ, List.getElem_cons_zero, List.setIfInBounds_toArray, List.set_cons_zero, List.set_cons_succ]
                  refine anyT_take0 (i := 1) (v := ?_) rfl (by kernel_rfl) (by kernel_rfl) (by kernel_rfl) (by kernel_rfl) (by kernel_rfl) (fun _ _ _ h => h) hC (.inl ⟨by rfl, fun _ _ => ?_⟩) ?_
                  rotate_left 1
                  · go_simp
                    try with_reducible rfl
                  simp only [Act.put, List.getElem_toArray, List.getElem_cons_succ, List.getElem_cons_zero, List.setIfInBounds_toArray, List.set_cons_zero, List.set_cons_succ]
                  refine anyT_take0 (i := 2) (v := ?_) rfl (by kernel_rfl) (by kernel_rfl) (by kernel_rfl) (by kernel_rfl) (by kernel_rfl) (fun _ _ _ h => h) hC (.inl ⟨by rfl, fun _ _ => ?_⟩) ?_
                  rotate_left 1
                  · go_simp
                    try with_reducible rfl
                  simp only [Act.put, List.getElem_toArray, List.getElem_cons_succ, List.getElem_cons_zero, List.setIfInBounds_toArray, List.set_cons_zero, List.set_cons_succ]
                  refine anyT_take0 (i := 3) (v := ?_) rfl (by kernel_rfl) (by kernel_rfl) (by kernel_rfl) (by kernel_rfl) (by kernel_rfl) (fun _ _ _ h => h) hC (.inl ⟨by rfl, fun _ _ => ?_⟩) ?_
                  rotate_left 1
                  · go_simp
                    try with_reducible rfl
                  simp only [Act.put, List.getElem_toArray, List.getElem_cons_succ, List.getElem_cons_zero, List.setIfInBounds_toArray, List.set_cons_zero, List.set_cons_succ]
                  refine anyT_takeC (i := 4) (v := ?_) rfl (by kernel_rfl) (by kernel_rfl) (by kernel_rfl) (by kernel_rfl) (by kernel_rfl) (by kernel_rfl) (fun _ _ _ h => h) hC (.inl ⟨by rfl, fun w hCw => ?_⟩) ?_
                  rotate_left 1
                  · dsimp only at hCw
                    go_simp
                    try with_reducible rfl
                  simp only [Act.put, List.getElem_toArray, List.getElem_cons_succ, List.getElem_cons_zero, List.setIfInBounds_toArray, List.set_cons_zero, List.set_cons_succ]
                  refine anyT_take0 (i := 5) (v := ?_) rfl (by kernel_rfl) (by kernel_rfl) (by kernel_rfl) (by kernel_rfl) (by kernel_rfl) (fun _ _ _ h => h) hC (.inl ⟨by rfl, fun _ _ => ?_⟩) ?_
                  rotate_left 1
                  · go_simp
                    try with_reducible rfl
                  simp only [Act.put, List.getElem_toArray, List.getElem_cons_succ, List.getElem_cons_zero, List.setIfInBounds_toArray, List.set_cons_zero, List.set_cons_succ]
                  refine anyT_take0 (i := 6) (v := ?_) rfl (by kernel_rfl) (by kernel_rfl) (by kernel_rfl) (by kernel_rfl) (by kernel_rfl) (fun _ _ _ h => h) hC (.inl ⟨by rfl, fun _ _ => ?_⟩) ?_
                  rotate_left 1
                  · go_simp
                    try with_reducible rfl
                  simp only [Act.put, List.getElem_toArray, List.getElem_cons_succ, List.getElem_cons_zero, List.setIfInBounds_toArray, List.set_cons_zero, List.set_cons_succ]
                  refine anyT_take0 (i := 7) (v := ?_) rfl (by kernel_rfl) (by kernel_rfl) (by kernel_rfl) (by kernel_rfl) (by kernel_rfl) (fun _ _ _ h => h) hC (.inl ⟨by rfl, fun _ _ => ?_⟩) ?_
                  rotate_left 1
                  · go_simp
                    try with_reducible rfl
                  simp only [Act.put, List.getElem_toArray, List.getElem_cons_succ, List.getElem_cons_zero, List.setIfInBounds_toArray, List.set_cons_zero, List.set_cons_succ]
                  refine anyT_takeC (i := 8) (v := ?_) rfl (by kernel_rfl) (by kernel_rfl) (by kernel_rfl) (by kernel_rfl) (by kernel_rfl) (by kernel_rfl) (fun _ _ _ h => h) hC (.inl ⟨by rfl, fun w hCw => ?_⟩) ?_
                  rotate_left 1
                  · dsimp only at hCw
                    go_simp
                    try with_reducible rfl
                  simp only [Act.put, List.getElem_toArray, List.getElem_cons_succ, List.getElem_cons_zero, List.setIfInBounds_toArray, List.set_cons_zero, List.set_cons_succ]
                  refine anyT_take0 (i := 9) (v := ?_) rfl (by kernel_rfl) (by kernel_rfl) (by kernel_rfl) (by kernel_rfl) (by kernel_rfl) (fun _ _ _ h => h) hC (.inl ⟨by rfl, fun _ _ => ?_⟩) ?_
                  rotate_left 1
                  · go_simp
                    try with_reducible rfl
                  simp only [Act.put, List.getElem_toArray, List.getElem_cons_succ, List.getElem_cons_zero, List.setIfInBounds_toArray, List.set_cons_zero, List.set_cons_succ]
                  refine anyT_take0 (i := 10) (v := ?_) rfl (by kernel_rfl) (by kernel_rfl) (by kernel_rfl) (by kernel_rfl) (by kernel_rfl) (fun _ _ _ h => h) hC (.inl ⟨by rfl, fun _ _ => ?_⟩) ?_
                  rotate_left 1
                  · go_simp
                    try with_reducible rfl
                  simp only [Act.put, List.getElem_toArray, List.getElem_cons_succ, List.getElem_cons_zero, List.setIfInBounds_toArray, List.set_cons_zero, List.set_cons_succ]
                  refine anyT_takeC (i := 11) (v := ?_) rfl (by kernel_rfl) (by kernel_rfl) (by kernel_rfl) (by kernel_rfl) (by kernel_rfl) (by kernel_rfl) (fun _ _ _ h => h) hC (.inl ⟨by rfl, fun w hCw => ?_⟩) ?_
                  rotate_left 1
                  · dsimp only at hCw
                    go_simp
                    try with_reducible rfl
                  simp only [Act.put, List.getElem_toArray, List.getElem_cons_succ, List.getElem_cons_zero, List.setIfInBounds_toArray, List.set_cons_zero, List.set_cons_succ]
                  refine anyT_force (i := 12) rfl (by kernel_rfl) (by rfl) ?_
                  go_simp
                  refine ⟨fun _ => ⟨hC1, hC2, hC3⟩, ?_⟩
                  refine anyT_force (i := 13) rfl (by kernel_rfl) (by rfl) ?_
                  refine Lib.wp_append_run _ _ _ _ _ rfl _ _ rfl rfl _ _ HRZ.out ?_
                  refine ⟨fun _ => ⟨p49, hC4, hC5⟩, ?_⟩
                  simp only [Act.put, List.getElem_toArray, List.getElem_cons_succ, List.getElem_cons_zero, List.setIfInBounds_toArray, List.set_cons_zero, List.set_cons_succ]
                  have hC : (fun z : World => z.cell? ⟨x, 4, none⟩ = some (.slice b8 G.length bc8) ∧ z.cell? ⟨y, 4, none⟩ = some (.slice (some ⟨bb, bo, none⟩) Qc.length bc2) ∧ z.cell? ⟨bb, bo + k, none⟩ = some (.int .u8 (c.toNat : Int))) wb := ⟨p49, hC4, hC5⟩
                  refine anyT_take0 (i := 14) (v := ?_) rfl (by kernel_rfl) (by kernel_rfl) (by kernel_rfl) (by kernel_rfl) (by kernel_rfl) (fun _ _ _ h => h) hC (.inl ⟨by rfl, fun _ _ => ?_⟩) ?_
                  rotate_left 1
                  · go_simp
                    try with_reducible rfl
                  simp only [Act.put, List.getElem_toArray, List.getElem_cons_succ, List.getElem_cons_zero, List.setIfInBounds_toArray, List.set_cons_zero, List.set_cons_succ]
                  refine anyT_take0 (i := 15) (v := ?_) rfl (by kernel_rfl) (by kernel_rfl) (by kernel_rfl) (by kernel_rfl) (by kernel_rfl) (fun _ _ _ h => h) hC (.inl ⟨by rfl, fun _ _ => ?_⟩) ?_
                  rotate_left 1
                  · go_simp
                    try with_reducible rfl
                  simp only [Act.put, List.getElem_toArray, List.getElem_cons_succ, List.getElem_cons_zero, List.setIfInBounds_toArray, List.set_cons_zero, List.set_cons_succ]
                  refine anyT_tail (k := 16) (by rfl) (by kernel_rfl) (by simp) rfl rfl (by kernel_rfl) ?_
                  have hx13 : RowAt (wb.setCell ⟨x, 4, none⟩ (.slice ab (G.length + 1) cb)) x #[.int .i64 room, .slice aD (all.length + D.length) cD, .int .i64 taken, .slice az (G.length + 1) cz, .slice ab (G.length + 1) cb] 33 := (hx12.set 4 _).eq rfl
                  have hks : Keeps (· = x) wb (wb.setCell ⟨x, 4, none⟩ (.slice ab (G.length + 1) cb)) := (Keeps.refl _ _).setCell _ _ (.inl rfl)
                  have hz13 := hz12.keeps hks (fun b hb e => by subst e; exact hz12.apart hx12 (by decide) hb)
                  rw [hQ9l] at hba2
                  have hb13 := hba2.keeps hks (fun b hb e => by subst e; exact hba2.apart hx12 (by decide) hb)
                  have hk13 := hk12.trans hks (fun _ _ h => h)
                  have HX := Lib.hid hx13
                  have HZ := Lib.hid hz13
                  have HB := Lib.hid hb13
                  have HK := Lib.hid hk13
                  clear hks hx12 hz12 hk12 hba hba2 hkb hbl hka hgz hgb p4 hC hC1 hC2 hC3 hC4 hC5 s411 b011 HRZ hk9s hQ9l hx11 hz11 hb11 hk11 hx13 hz13 hb13 hk13
                  go_wp2
                  go_roundw
                  case rel => exact ⟨k + 1, G ++ [(t, c)], _, _, by omega, by go_num, HX.out, HZ.out, HB.out, by rw [HGS.out, if_pos hin], HK.out⟩
                  case measure => simp [intOf]; omega
                · go_wp2
                  refine region_draws_tail 12 (by kernel_rfl) (by kernel_rfl) ?_
                  simp only [List.take_succ_cons, List.take_zero, List.drop_succ_cons, List.drop_zero]
                  repeat (go_big_quiet_step (fail))
                  refine wpQuiet_nil ?_
                  rintro _ ⟨nq, rfl⟩
                  go_wp2
                  go_roundw
                  case rel => exact ⟨k + 1, G, _, _, by omega, by go_num, HX3.out.drewN nq, HZ3.out.keeps ((Keeps.refl (fun _ => False) wr).drewN nq) (fun _ _ h => h), HB3.out.keeps ((Keeps.refl (fun _ => False) wr).drewN nq) (fun _ _ h => h), by rw [HGS.out, if_neg (by omega)], HK3.out.drewN nq⟩
                  case measure => simp [intOf]; omega
              · obtain rfl : k = Qc.length := by omega
                rw [List.take_length] at hG
                have hy3 := HY.out.keeps hkw3 hyx
                have s3 : wr.cell? ⟨y, 3, none⟩ = some (.slice za2 Qc.length zc2) := by have := hy3.cell 3; rw [hQcz] at this; exact this
                have p91 : wr.cell? ⟨x, 1, none⟩ = some (.slice aD (all.length + D.length) cD) := hx3.cell 1
                have q9 := i64_fit ((D.length : Int)) (by omega) (by omega)
                have q8 := i64_fit ((all.length : Int) + (D.length : Int) - (all.length : Int)) (by omega) (by omega)
                have q7 : (all.length : Int) + (D.length : Int) - (all.length : Int) = (D.length : Int) := by omega
                have hout : RPut x room (.slice aa all.length ac) taken all (addQ all.length ((all.length : Int) + (room - ((all.length : Int) - (taken : Int)))) Q at' data) w (.returned (.tuple #[.int .i64 D.length, .int .i64 0])) wr := by
                  rw [hlim, ← HQC.out]
                  rw [hADl, Int.natCast_add] at hSC
                  have hw10 := HKW.out.size
                  refine ⟨D, HDR.out, hq, .inr ⟨by rw [hSC]; omega, rfl, .slice aD (all.length + D.length) cD, z3, b3, hx3, ?_, by rw [← hG]; exact hz3.mono hw10, by rw [← hG]; exact hb3.mono hw10, (HKW.out.mono (S' := (· = x)) (fun _ _ h => h.elim)).trans hkw3 (fun _ _ h => h)⟩⟩
                  rcases HAO.out with h | ⟨h, h'⟩
                  · left
                    rw [hADl] at h
                    exact h.keeps hkw3 (fun b hb e => by have := (h.block b hb).1; omega)
                  · exact .inr ⟨by rw [← hADl]; exact h, h'⟩
                have HOUT := Lib.hid hout
                clear hout hG hx3 hz3 hb3 hkw3 hy3
                go_wp2
                go_ret2
                exact HOUT.out
end Go.Proofs.Ytiodmhcmciohnaa

/-! (*Receiver).Put in general. -/
namespace Go.Proofs.Ytiodmhcmciohnaa
set_option linter.unusedVariables false
set_option linter.unusedSimpArgs false
open Go.RowKit

theorem TRd.mono {w : World} {X Y : Nat → Prop} {v : Value} {L : List Pt} (h : TRd w X v L) (hXY : ∀ b, X b → b < w.heap.size → Y b) : TRd w Y v L := by
  obtain ⟨qs, h1, h2, h3⟩ := h
  exact ⟨qs, h1, SAt.mono h2 fun b hb => ⟨hXY b hb.1 hb.2, hb.2⟩, fun q hq => (h3 q hq).mono fun b hb => ⟨hXY b hb.1 hb.2, hb.2⟩⟩
/-- Blocks that are neither the receiver's own nor those of its bytes. -/
def OffG (g : Nat) (bv : Value) (Z : Nat → Prop) (b : Nat) : Prop := b ≠ g ∧ bv.ownBlock ≠ some b ∧ ¬ Z b

/-- How a Put ends where something may be put. -/
def Put1R (Z : Nat → Prop) (g B : Nat) (room next : Int) (front l : List UInt8) (R : List Pt) (bv : Value) (w : World) (e : Ending) (w' : World) : Prop :=
  (64 < R.length ∧ e = .returned (.tuple #[.int .i64 0, .int .i64 7]) ∧ Keeps (fun _ => False) w w') ∨
  (R.length ≤ 64 ∧ e = .returned (.tuple #[.int .i64 front.length, .int .i64 0]) ∧ ∃ bv' pv', RowAt w' g #[.int .i64 room, .int .i64 (next + front.length), bv', pv'] 66 ∧ BOwn w' B bv' (l ++ front) ∧ TRd w' (OffG g bv' Z) pv' R ∧ Keeps (fun b => b = g ∨ bv.ownBlock = some b) w w' ∧
    (bv'.ownBlock = bv.ownBlock ∨ ∃ b, bv'.ownBlock = some b ∧ w.heap.size ≤ b))

set_option maxRecDepth 100000 in
set_option maxHeartbeats 1000000 in
theorem put_none (g : Nat) (at' next room : Int) (bv dv pv : Value) (data l : List UInt8) (w : World)
    (hr : RowAt w g #[.int .i64 room, .int .i64 next, bv, pv] 66) (ho : BAt w (· < w.heap.size) bv l) (hd : BRd w dv data)
    (h1 : 0 ≤ at') (h2 : at' + data.length ≤ 1000000000) (h3 : 0 ≤ next) (h4 : next ≤ 100000000) (h5 : 0 ≤ room) (h6 : room ≤ 65535) (hl : l.length ≤ 1000000) (h7 : highF at' next (room - l.length) data.length ≤ lowF at' next) :
    Calls Try.prog 12 #[.pointer (some ⟨g, 0, none⟩), .int .i64 at', dv] w fun e w' => e = .returned (.tuple #[.int .i64 0, .int .i64 0]) ∧ ∃ m, w' = w.drewN m := by
  obtain ⟨ba, bc, rfl, -, -⟩ := BAt.slice ho
  obtain ⟨da, dc, rfl, -, -⟩ := BAt.slice hd
  obtain ⟨low, hlow⟩ : ∃ x, lowF at' next = x := ⟨_, rfl⟩
  obtain ⟨high, hhigh⟩ : ∃ x, highF at' next (room - l.length) data.length = x := ⟨_, rfl⟩
  rw [hlow, hhigh] at h7
  have hmx : (if at' < next then next else at') = low := hlow
  have hmn : (if next + (room - (l.length : Int)) < at' + (data.length : Int) then next + (room - (l.length : Int)) else at' + (data.length : Int)) = high := hhigh
  have q3 := i64_fit (at' + (data.length : Int)) (by omega) (by omega)
  have q4 := i64_fit (next + (room - (l.length : Int))) (by omega) (by omega)
  have q5 := i64_fit (1000000000 - (data.length : Int)) (by omega) (by omega)
  have hg0 : ¬ at' < 0 := by omega
  have hg1 : ¬ 1000000000 - (data.length : Int) < at' := by omega
  have p0 : w.cell? ⟨g, 0, none⟩ = some (.int .i64 room) := hr.cell 0
  have p1 : w.cell? ⟨g, 1, none⟩ = some (.int .i64 next) := hr.cell 1
  have hroom := Lib.hid (fun W' (hk : Keeps (fun _ => False) w W') => room_any g (.slice ba l.length bc) pv room next l.length ba bc W' (hr.keeps hk (fun h => h)) rfl (by omega) (by omega) (by omega))
  clear hlow hhigh
  go_enter Try.func12, Try.ntmps12
  go_wp2
  refine region_T [] (fun x => x.cell? ⟨g, 0, none⟩ = some (.int .i64 room) ∧ x.cell? ⟨g, 1, none⟩ = some (.int .i64 next)) (by kernel_rfl) ?_
  have hC : (fun x : World => x.cell? ⟨g, 0, none⟩ = some (.int .i64 room) ∧ x.cell? ⟨g, 1, none⟩ = some (.int .i64 next)) w.drew := ⟨p0, p1⟩
  refine anyT_take0 (i := 0) (v := ?_) rfl (by kernel_rfl) (by kernel_rfl) (by kernel_rfl) (by kernel_rfl) (by kernel_rfl) (fun _ _ _ h => h) hC (.inl ⟨by rfl, fun _ _ => ?_⟩) ?_
  rotate_left 1
  · go_simp
    try with_reducible rfl
  simp only [Act.put, List.getElem_toArray, List.getElem_cons_succ, List.getElem_cons_zero, List.setIfInBounds_toArray, List.set_cons_zero, List.set_cons_succ]
  refine anyT_take0 (i := 1) (v := ?_) rfl (by kernel_rfl) (by kernel_rfl) (by kernel_rfl) (by kernel_rfl) (by kernel_rfl) (fun _ _ _ h => h) hC (.inl ⟨by rfl, fun _ _ => ?_⟩) ?_
  rotate_left 1
  · go_simp
    try with_reducible rfl
  simp only [Act.put, List.getElem_toArray, List.getElem_cons_succ, List.getElem_cons_zero, List.setIfInBounds_toArray, List.set_cons_zero, List.set_cons_succ]
  refine anyT_take0 (i := 2) (v := ?_) rfl (by kernel_rfl) (by kernel_rfl) (by kernel_rfl) (by kernel_rfl) (by kernel_rfl) (fun _ _ _ h => h) hC (.inl ⟨by rfl, fun _ _ => ?_⟩) ?_
  rotate_left 1
  · go_simp
    try with_reducible rfl
  simp only [Act.put, List.getElem_toArray, List.getElem_cons_succ, List.getElem_cons_zero, List.setIfInBounds_toArray, List.set_cons_zero, List.set_cons_succ]
  refine anyT_take0 (i := 3) (v := ?_) rfl (by kernel_rfl) (by kernel_rfl) (by kernel_rfl) (by kernel_rfl) (by kernel_rfl) (fun _ _ _ h => h) hC (.inl ⟨by rfl, fun _ _ => ?_⟩) ?_
  rotate_left 1
  · go_simp
    try with_reducible rfl
  simp only [Act.put, List.getElem_toArray, List.getElem_cons_succ, List.getElem_cons_zero, List.setIfInBounds_toArray, List.set_cons_zero, List.set_cons_succ]
  refine anyT_takeC (i := 4) (v := ?_) rfl (by kernel_rfl) (by kernel_rfl) (by kernel_rfl) (by kernel_rfl) (by kernel_rfl) (by kernel_rfl) (fun _ _ _ h => h) hC (.inl ⟨by rfl, fun w hCw => ?_⟩) ?_
  rotate_left 1
  · dsimp only at hCw
    go_simp
    try with_reducible rfl
  simp only [Act.put, List.getElem_toArray, List.getElem_cons_succ, List.getElem_cons_zero, List.setIfInBounds_toArray, List.set_cons_zero, List.set_cons_succ]
  refine anyT_take0 (i := 5) (v := ?_) rfl (by kernel_rfl) (by kernel_rfl) (by kernel_rfl) (by kernel_rfl) (by kernel_rfl) (fun _ _ _ h => h) hC (.inl ⟨by rfl, fun _ _ => ?_⟩) ?_
  rotate_left 1
  · go_simp
    try with_reducible rfl
  simp only [Act.put, List.getElem_toArray, List.getElem_cons_succ, List.getElem_cons_zero, List.setIfInBounds_toArray, List.set_cons_zero, List.set_cons_succ]
  refine anyT_take0 (i := 6) (v := ?_) rfl (by kernel_rfl) (by kernel_rfl) (by kernel_rfl) (by kernel_rfl) (by kernel_rfl) (fun _ _ _ h => h) hC (.inl ⟨by rfl, fun _ _ => ?_⟩) ?_
  rotate_left 1
  · go_simp
    try with_reducible rfl
  simp only [Act.put, List.getElem_toArray, List.getElem_cons_succ, List.getElem_cons_zero, List.setIfInBounds_toArray, List.set_cons_zero, List.set_cons_succ]
  refine anyT_take0 (i := 7) (v := ?_) rfl (by kernel_rfl) (by kernel_rfl) (by kernel_rfl) (by kernel_rfl) (by kernel_rfl) (fun _ _ _ h => h) hC (.inl ⟨by rfl, fun _ _ => ?_⟩) ?_
  rotate_left 1
  · go_simp
    try with_reducible rfl
  simp only [Act.put, List.getElem_toArray, List.getElem_cons_succ, List.getElem_cons_zero, List.setIfInBounds_toArray, List.set_cons_zero, List.set_cons_succ]
  refine anyT_take0 (i := 8) (v := ?_) rfl (by kernel_rfl) (by kernel_rfl) (by kernel_rfl) (by kernel_rfl) (by kernel_rfl) (fun _ _ _ h => h) hC (.inl ⟨by rfl, fun _ _ => ?_⟩) ?_
  rotate_left 1
  · go_simp
    try with_reducible rfl
  simp only [Act.put, List.getElem_toArray, List.getElem_cons_succ, List.getElem_cons_zero, List.setIfInBounds_toArray, List.set_cons_zero, List.set_cons_succ]
  refine anyT_take0 (i := 9) (v := ?_) rfl (by kernel_rfl) (by kernel_rfl) (by kernel_rfl) (by kernel_rfl) (by kernel_rfl) (fun _ _ _ h => h) hC (.inl ⟨by rfl, fun _ _ => ?_⟩) ?_
  rotate_left 1
  · go_simp
    try with_reducible rfl
  simp only [Act.put, List.getElem_toArray, List.getElem_cons_succ, List.getElem_cons_zero, List.setIfInBounds_toArray, List.set_cons_zero, List.set_cons_succ]
  refine anyT_take0 (i := 10) (v := ?_) rfl (by kernel_rfl) (by kernel_rfl) (by kernel_rfl) (by kernel_rfl) (by kernel_rfl) (fun _ _ _ h => h) hC (.inl ⟨by rfl, fun _ _ => ?_⟩) ?_
  rotate_left 1
  · go_simp
    try with_reducible rfl
  simp only [Act.put, List.getElem_toArray, List.getElem_cons_succ, List.getElem_cons_zero, List.setIfInBounds_toArray, List.set_cons_zero, List.set_cons_succ]
  refine anyT_take0 (i := 11) (v := ?_) rfl (by kernel_rfl) (by kernel_rfl) (by kernel_rfl) (by kernel_rfl) (by kernel_rfl) (fun _ _ _ h => h) hC (.inl ⟨by rfl, fun _ _ => ?_⟩) ?_
  rotate_left 1
  · go_simp
    try with_reducible rfl
  simp only [Act.put, List.getElem_toArray, List.getElem_cons_succ, List.getElem_cons_zero, List.setIfInBounds_toArray, List.set_cons_zero, List.set_cons_succ]
  refine anyT_take0 (i := 12) (v := ?_) rfl (by kernel_rfl) (by kernel_rfl) (by kernel_rfl) (by kernel_rfl) (by kernel_rfl) (fun _ _ _ h => h) hC (.inl ⟨by rfl, fun _ _ => ?_⟩) ?_
  rotate_left 1
  · go_simp
    try with_reducible rfl
  simp only [Act.put, List.getElem_toArray, List.getElem_cons_succ, List.getElem_cons_zero, List.setIfInBounds_toArray, List.set_cons_zero, List.set_cons_succ]
  refine anyT_takeC (i := 13) (v := ?_) rfl (by kernel_rfl) (by kernel_rfl) (by kernel_rfl) (by kernel_rfl) (by kernel_rfl) (by kernel_rfl) (fun _ _ _ h => h) hC (.inl ⟨by rfl, fun w hCw => ?_⟩) ?_
  rotate_left 1
  · dsimp only at hCw
    go_simp
    try with_reducible rfl
  simp only [Act.put, List.getElem_toArray, List.getElem_cons_succ, List.getElem_cons_zero, List.setIfInBounds_toArray, List.set_cons_zero, List.set_cons_succ]
  refine anyT_take0 (i := 14) (v := ?_) rfl (by kernel_rfl) (by kernel_rfl) (by kernel_rfl) (by kernel_rfl) (by kernel_rfl) (fun _ _ _ h => h) hC (.inl ⟨by rfl, fun _ _ => ?_⟩) ?_
  rotate_left 1
  · go_simp
    try with_reducible rfl
  simp only [Act.put, List.getElem_toArray, List.getElem_cons_succ, List.getElem_cons_zero, List.setIfInBounds_toArray, List.set_cons_zero, List.set_cons_succ]
  refine anyT_force (i := 15) rfl (by kernel_rfl) (by rfl) ?_
  go_simp
  refine (hroom.out _ (Keeps.refl (fun _ => False) w).drew).mono ?_
  rintro e w2 ⟨rfl, m2, rfl⟩
  have hk2 : Keeps (fun _ => False) w (w.drew.drewN m2) := (Keeps.refl (fun _ => False) w).drew.drewN m2
  refine ⟨fun _ => ⟨p0, p1⟩, ?_⟩
  have hC : (fun x : World => x.cell? ⟨g, 0, none⟩ = some (.int .i64 room) ∧ x.cell? ⟨g, 1, none⟩ = some (.int .i64 next)) (w.drew.drewN m2) := ⟨p0, p1⟩
  refine anyT_take0 (i := 16) (v := ?_) rfl (by kernel_rfl) (by kernel_rfl) (by kernel_rfl) (by kernel_rfl) (by kernel_rfl) (fun _ _ _ h => h) hC (.inl ⟨by rfl, fun _ _ => ?_⟩) ?_
  rotate_left 1
  · go_simp
    try with_reducible rfl
  simp only [Act.put, List.getElem_toArray, List.getElem_cons_succ, List.getElem_cons_zero, List.setIfInBounds_toArray, List.set_cons_zero, List.set_cons_succ]
  refine anyT_take0 (i := 17) (v := ?_) rfl (by kernel_rfl) (by kernel_rfl) (by kernel_rfl) (by kernel_rfl) (by kernel_rfl) (fun _ _ _ h => h) hC (.inl ⟨by rfl, fun _ _ => ?_⟩) ?_
  rotate_left 1
  · go_simp
    try with_reducible rfl
  simp only [Act.put, List.getElem_toArray, List.getElem_cons_succ, List.getElem_cons_zero, List.setIfInBounds_toArray, List.set_cons_zero, List.set_cons_succ]
  refine anyT_take0 (i := 18) (v := ?_) rfl (by kernel_rfl) (by kernel_rfl) (by kernel_rfl) (by kernel_rfl) (by kernel_rfl) (fun _ _ _ h => h) hC (.inl ⟨by rfl, fun _ _ => ?_⟩) ?_
  rotate_left 1
  · go_simp
    try with_reducible rfl
  simp only [Act.put, List.getElem_toArray, List.getElem_cons_succ, List.getElem_cons_zero, List.setIfInBounds_toArray, List.set_cons_zero, List.set_cons_succ]
  refine anyT_take0 (i := 19) (v := ?_) rfl (by kernel_rfl) (by kernel_rfl) (by kernel_rfl) (by kernel_rfl) (by kernel_rfl) (fun _ _ _ h => h) hC (.inl ⟨by rfl, fun _ _ => ?_⟩) ?_
  rotate_left 1
  · go_simp
    try with_reducible rfl
  simp only [Act.put, List.getElem_toArray, List.getElem_cons_succ, List.getElem_cons_zero, List.setIfInBounds_toArray, List.set_cons_zero, List.set_cons_succ]
  refine (show anyT _ _ _ _ _ _ 0 _ _ _ from ⟨by kernel_rfl, ?_⟩)
  go_wp2_with fail
  go_ret2
  exact ⟨rfl, _, rfl⟩

set_option maxRecDepth 100000 in
set_option maxHeartbeats 4000000 in
theorem put_any (Z : Nat → Prop) (g B : Nat) (at' next room : Int) (bv dv pv : Value) (data l : List UInt8) (L : List Pt) (a : Int) (d : List UInt8) (rest : List Pt) (front : List UInt8) (R : List Pt) (w : World)
    (hr : RowAt w g #[.int .i64 room, .int .i64 next, bv, pv] 66) (ho : BOwn w B bv l) (hBw : B ≤ w.heap.size) (hZ : ∀ b, Z b → b < w.heap.size) (hL : TRd w (OffG g bv Z) pv L) (hd : BRd w dv data) (hb : ∀ r ∈ L, Bd r) (hl : L.length ≤ 40000)
    (h1 : 0 ≤ at') (h2 : at' + data.length ≤ 1000000000) (h3 : 0 ≤ next) (h4 : next ≤ 100000000) (h5 : 0 ≤ room) (h6 : room ≤ 65535) (hll : l.length ≤ 1000000) (h7 : lowF at' next < highF at' next (room - l.length) data.length)
    (hM : mergeF L (partF at' next (room - l.length) data) = (a, d) :: rest) (hfr : (a = next ∧ front = d ∧ R = rest) ∨ (a ≠ next ∧ front = [] ∧ R = (a, d) :: rest)) :
    Calls Try.prog 12 #[.pointer (some ⟨g, 0, none⟩), .int .i64 at', dv] w (Put1R Z g B room next front l R bv w) := by
  obtain ⟨ba, bc, rfl, hbc, hbm⟩ := BOwn.slice ho
  obtain ⟨X, hXd⟩ : ∃ X, OffG g (.slice ba l.length bc) Z = X := ⟨_, rfl⟩
  have hgb : (Value.slice ba l.length bc).ownBlock ≠ some g := ho.apart hr (by decide)
  have hX : ∀ b, w.heap.size ≤ b → X b := fun b hb => by
    rw [← hXd]
    exact ⟨fun e => by have := hr.lt; omega, fun e => by have := (ho.block b e).2; omega, fun e => by have := hZ b e; omega⟩
  have hXg : ∀ b, X b → b ≠ g := fun b hb => by rw [← hXd] at hb; exact hb.1
  have hXb : ∀ b, X b → (Value.slice ba l.length bc).ownBlock ≠ some b := fun b hb => by rw [← hXd] at hb; exact hb.2.1
  have hXz := Lib.hid (fun b (hb : X b) => (show ¬ Z b by rw [← hXd] at hb; exact hb.2.2))
  rw [hXd] at hL
  clear hXd
  have hmf : ∀ (fn : Fn) (first cap : Array Value) (w : World), (Instr.makeFunc fn first cap).run Try.prog w = .ok (.func fn first cap) w := fun _ _ _ _ => rfl
  obtain ⟨low, hlow⟩ : ∃ x, lowF at' next = x := ⟨_, rfl⟩
  obtain ⟨high, hhigh⟩ : ∃ x, highF at' next (room - l.length) data.length = x := ⟨_, rfl⟩
  unfold partF at hM
  rw [hlow, hhigh] at hM
  rw [hlow, hhigh] at h7
  have hmx : (if at' < next then next else at') = low := hlow
  have hmn : (if next + (room - (l.length : Int)) < at' + (data.length : Int) then next + (room - (l.length : Int)) else at' + (data.length : Int)) = high := hhigh
  obtain ⟨lo, hlo⟩ : ∃ x, (low - at').toNat = x := ⟨_, rfl⟩
  obtain ⟨hi, hhi⟩ : ∃ x, (high - at').toNat = x := ⟨_, rfl⟩
  rw [hlo, hhi] at hM
  have b1 : at' ≤ low ∧ next ≤ low := by rw [← hmx]; split <;> omega
  have b2 : high ≤ next + (room - (l.length : Int)) ∧ high ≤ at' + data.length := by rw [← hmn]; split <;> omega
  have q1 : IntKind.i64.wrap (low - at') = (lo : Int) := by rw [i64_fit _ (by omega) (by omega)]; omega
  have q2 : IntKind.i64.wrap (high - at') = (hi : Int) := by rw [i64_fit _ (by omega) (by omega)]; omega
  have q3 := i64_fit (at' + (data.length : Int)) (by omega) (by omega)
  have q4 := i64_fit (next + (room - (l.length : Int))) (by omega) (by omega)
  have q5 := i64_fit (1000000000 - (data.length : Int)) (by omega) (by omega)
  have hlh : (lo : Int) ≤ (hi : Int) := by omega
  have hhl : hi ≤ data.length := by omega
  have hg0 : ¬ at' < 0 := by omega
  have hg1 : ¬ 1000000000 - (data.length : Int) < at' := by omega
  obtain ⟨db, do_, dc, rfl, hdc, hdm, hdb, -⟩ := BAt.get hd (by omega)
  simp only [maxLen] at hdm
  have hhd : (hi : Int) ≤ (dc : Int) := by omega
  obtain ⟨o2, e2, hdrop, -⟩ := BAt.cut hd lo (by omega)
  have hcn : ¬ dc = lo := by omega
  rw [if_neg hcn] at e2
  simp only [Option.some.injEq, Addr.mk.injEq, and_true, true_and] at e2
  subst e2
  rw [← List.length_drop] at hdrop
  have hpc := BAt.take hdrop (hi - lo) (by rw [List.length_drop]; omega)
  have hpl : ((data.drop lo).take (hi - lo)).length = hi - lo := by rw [List.length_take, List.length_drop]; omega
  obtain ⟨PD, hPD⟩ : ∃ PD, (data.drop lo).take (hi - lo) = PD := ⟨_, rfl⟩
  rw [hPD] at hM hpc hpl
  have hbp : Bd (low, PD) := ⟨by show 0 ≤ low; omega, by show low + (PD.length : Int) ≤ _; omega⟩
  have p0 : w.cell? ⟨g, 0, none⟩ = some (.int .i64 room) := hr.cell 0
  have p1 : w.cell? ⟨g, 1, none⟩ = some (.int .i64 next) := hr.cell 1
  have h7' : ¬ high ≤ low := by omega
  have HPC := Lib.hid hpc
  have HM := Lib.hid hM
  have HB := Lib.hid hb
  have hbd := mergeF_bd L (low, PD) hb hbp (a, d) (by rw [hM]; simp)
  have hdl := hbd.len
  simp only at hdl
  have HPL := Lib.hid hpl
  have hroom := Lib.hid (fun W' (hk : Keeps (fun _ => False) w W') => room_any g (.slice ba l.length bc) pv room next l.length ba bc W' (hr.keeps hk (fun h => h)) rfl (by omega) (by omega) (by omega))
  clear hpc hM hb hdrop hlow hhigh hPD hlo hhi hpl
  go_enter Try.func12, Try.ntmps12
  go_wp2
  refine region_T [] (fun x => x.cell? ⟨g, 0, none⟩ = some (.int .i64 room) ∧ x.cell? ⟨g, 1, none⟩ = some (.int .i64 next)) (by kernel_rfl) ?_
  have hC : (fun x : World => x.cell? ⟨g, 0, none⟩ = some (.int .i64 room) ∧ x.cell? ⟨g, 1, none⟩ = some (.int .i64 next)) w.drew := ⟨p0, p1⟩
  refine anyT_take0 (i := 0) (v := ?_) rfl (by kernel_rfl) (by kernel_rfl) (by kernel_rfl) (by kernel_rfl) (by kernel_rfl) (fun _ _ _ h => h) hC (.inl ⟨by rfl, fun _ _ => ?_⟩) ?_
  rotate_left 1
  · go_simp
    try with_reducible rfl
  simp only [Act.put, List.getElem_toArray, List.getElem_cons_succ, List.getElem_cons_zero, List.setIfInBounds_toArray, List.set_cons_zero, List.set_cons_succ]
  refine anyT_take0 (i := 1) (v := ?_) rfl (by kernel_rfl) (by kernel_rfl) (by kernel_rfl) (by kernel_rfl) (by kernel_rfl) (fun _ _ _ h => h) hC (.inl ⟨by rfl, fun _ _ => ?_⟩) ?_
  rotate_left 1
  · go_simp
    try with_reducible rfl
  simp only [Act.put, List.getElem_toArray, List.getElem_cons_succ, List.getElem_cons_zero, List.setIfInBounds_toArray, List.set_cons_zero, List.set_cons_succ]
  refine anyT_take0 (i := 2) (v := ?_) rfl (by kernel_rfl) (by kernel_rfl) (by kernel_rfl) (by kernel_rfl) (by kernel_rfl) (fun _ _ _ h => h) hC (.inl ⟨by rfl, fun _ _ => ?_⟩) ?_
  rotate_left 1
  · go_simp
    try with_reducible rfl
  simp only [Act.put, List.getElem_toArray, List.getElem_cons_succ, List.getElem_cons_zero, List.setIfInBounds_toArray, List.set_cons_zero, List.set_cons_succ]
  refine anyT_take0 (i := 3) (v := ?_) rfl (by kernel_rfl) (by kernel_rfl) (by kernel_rfl) (by kernel_rfl) (by kernel_rfl) (fun _ _ _ h => h) hC (.inl ⟨by rfl, fun _ _ => ?_⟩) ?_
  rotate_left 1
  · go_simp
    try with_reducible rfl
  simp only [Act.put, List.getElem_toArray, List.getElem_cons_succ, List.getElem_cons_zero, List.setIfInBounds_toArray, List.set_cons_zero, List.set_cons_succ]
  refine anyT_takeC (i := 4) (v := ?_) rfl (by kernel_rfl) (by kernel_rfl) (by kernel_rfl) (by kernel_rfl) (by kernel_rfl) (by kernel_rfl) (fun _ _ _ h => h) hC (.inl ⟨by rfl, fun w hCw => ?_⟩) ?_
  rotate_left 1
  · dsimp only at hCw
    go_simp
    try with_reducible rfl
  simp only [Act.put, List.getElem_toArray, List.getElem_cons_succ, List.getElem_cons_zero, List.setIfInBounds_toArray, List.set_cons_zero, List.set_cons_succ]
  refine anyT_take0 (i := 5) (v := ?_) rfl (by kernel_rfl) (by kernel_rfl) (by kernel_rfl) (by kernel_rfl) (by kernel_rfl) (fun _ _ _ h => h) hC (.inl ⟨by rfl, fun _ _ => ?_⟩) ?_
  rotate_left 1
  · go_simp
    try with_reducible rfl
  simp only [Act.put, List.getElem_toArray, List.getElem_cons_succ, List.getElem_cons_zero, List.setIfInBounds_toArray, List.set_cons_zero, List.set_cons_succ]
  refine anyT_take0 (i := 6) (v := ?_) rfl (by kernel_rfl) (by kernel_rfl) (by kernel_rfl) (by kernel_rfl) (by kernel_rfl) (fun _ _ _ h => h) hC (.inl ⟨by rfl, fun _ _ => ?_⟩) ?_
  rotate_left 1
  · go_simp
    try with_reducible rfl
  simp only [Act.put, List.getElem_toArray, List.getElem_cons_succ, List.getElem_cons_zero, List.setIfInBounds_toArray, List.set_cons_zero, List.set_cons_succ]
  refine anyT_take0 (i := 7) (v := ?_) rfl (by kernel_rfl) (by kernel_rfl) (by kernel_rfl) (by kernel_rfl) (by kernel_rfl) (fun _ _ _ h => h) hC (.inl ⟨by rfl, fun _ _ => ?_⟩) ?_
  rotate_left 1
  · go_simp
    try with_reducible rfl
  simp only [Act.put, List.getElem_toArray, List.getElem_cons_succ, List.getElem_cons_zero, List.setIfInBounds_toArray, List.set_cons_zero, List.set_cons_succ]
  refine anyT_take0 (i := 8) (v := ?_) rfl (by kernel_rfl) (by kernel_rfl) (by kernel_rfl) (by kernel_rfl) (by kernel_rfl) (fun _ _ _ h => h) hC (.inl ⟨by rfl, fun _ _ => ?_⟩) ?_
  rotate_left 1
  · go_simp
    try with_reducible rfl
  simp only [Act.put, List.getElem_toArray, List.getElem_cons_succ, List.getElem_cons_zero, List.setIfInBounds_toArray, List.set_cons_zero, List.set_cons_succ]
  refine anyT_take0 (i := 9) (v := ?_) rfl (by kernel_rfl) (by kernel_rfl) (by kernel_rfl) (by kernel_rfl) (by kernel_rfl) (fun _ _ _ h => h) hC (.inl ⟨by rfl, fun _ _ => ?_⟩) ?_
  rotate_left 1
  · go_simp
    try with_reducible rfl
  simp only [Act.put, List.getElem_toArray, List.getElem_cons_succ, List.getElem_cons_zero, List.setIfInBounds_toArray, List.set_cons_zero, List.set_cons_succ]
  refine anyT_take0 (i := 10) (v := ?_) rfl (by kernel_rfl) (by kernel_rfl) (by kernel_rfl) (by kernel_rfl) (by kernel_rfl) (fun _ _ _ h => h) hC (.inl ⟨by rfl, fun _ _ => ?_⟩) ?_
  rotate_left 1
  · go_simp
    try with_reducible rfl
  simp only [Act.put, List.getElem_toArray, List.getElem_cons_succ, List.getElem_cons_zero, List.setIfInBounds_toArray, List.set_cons_zero, List.set_cons_succ]
  refine anyT_take0 (i := 11) (v := ?_) rfl (by kernel_rfl) (by kernel_rfl) (by kernel_rfl) (by kernel_rfl) (by kernel_rfl) (fun _ _ _ h => h) hC (.inl ⟨by rfl, fun _ _ => ?_⟩) ?_
  rotate_left 1
  · go_simp
    try with_reducible rfl
  simp only [Act.put, List.getElem_toArray, List.getElem_cons_succ, List.getElem_cons_zero, List.setIfInBounds_toArray, List.set_cons_zero, List.set_cons_succ]
  refine anyT_take0 (i := 12) (v := ?_) rfl (by kernel_rfl) (by kernel_rfl) (by kernel_rfl) (by kernel_rfl) (by kernel_rfl) (fun _ _ _ h => h) hC (.inl ⟨by rfl, fun _ _ => ?_⟩) ?_
  rotate_left 1
  · go_simp
    try with_reducible rfl
  simp only [Act.put, List.getElem_toArray, List.getElem_cons_succ, List.getElem_cons_zero, List.setIfInBounds_toArray, List.set_cons_zero, List.set_cons_succ]
  refine anyT_takeC (i := 13) (v := ?_) rfl (by kernel_rfl) (by kernel_rfl) (by kernel_rfl) (by kernel_rfl) (by kernel_rfl) (by kernel_rfl) (fun _ _ _ h => h) hC (.inl ⟨by rfl, fun w hCw => ?_⟩) ?_
  rotate_left 1
  · dsimp only at hCw
    go_simp
    try with_reducible rfl
  simp only [Act.put, List.getElem_toArray, List.getElem_cons_succ, List.getElem_cons_zero, List.setIfInBounds_toArray, List.set_cons_zero, List.set_cons_succ]
  refine anyT_take0 (i := 14) (v := ?_) rfl (by kernel_rfl) (by kernel_rfl) (by kernel_rfl) (by kernel_rfl) (by kernel_rfl) (fun _ _ _ h => h) hC (.inl ⟨by rfl, fun _ _ => ?_⟩) ?_
  rotate_left 1
  · go_simp
    try with_reducible rfl
  simp only [Act.put, List.getElem_toArray, List.getElem_cons_succ, List.getElem_cons_zero, List.setIfInBounds_toArray, List.set_cons_zero, List.set_cons_succ]
  refine anyT_force (i := 15) rfl (by kernel_rfl) (by rfl) ?_
  go_simp
  refine (hroom.out _ (Keeps.refl (fun _ => False) w).drew).mono ?_
  rintro e w2 ⟨rfl, m2, rfl⟩
  have hk2 : Keeps (fun _ => False) w (w.drew.drewN m2) := (Keeps.refl (fun _ => False) w).drew.drewN m2
  refine ⟨fun _ => ⟨p0, p1⟩, ?_⟩
  have hC : (fun x : World => x.cell? ⟨g, 0, none⟩ = some (.int .i64 room) ∧ x.cell? ⟨g, 1, none⟩ = some (.int .i64 next)) (w.drew.drewN m2) := ⟨p0, p1⟩
  refine anyT_take0 (i := 16) (v := ?_) rfl (by kernel_rfl) (by kernel_rfl) (by kernel_rfl) (by kernel_rfl) (by kernel_rfl) (fun _ _ _ h => h) hC (.inl ⟨by rfl, fun _ _ => ?_⟩) ?_
  rotate_left 1
  · go_simp
    try with_reducible rfl
  simp only [Act.put, List.getElem_toArray, List.getElem_cons_succ, List.getElem_cons_zero, List.setIfInBounds_toArray, List.set_cons_zero, List.set_cons_succ]
  refine anyT_take0 (i := 17) (v := ?_) rfl (by kernel_rfl) (by kernel_rfl) (by kernel_rfl) (by kernel_rfl) (by kernel_rfl) (fun _ _ _ h => h) hC (.inl ⟨by rfl, fun _ _ => ?_⟩) ?_
  rotate_left 1
  · go_simp
    try with_reducible rfl
  simp only [Act.put, List.getElem_toArray, List.getElem_cons_succ, List.getElem_cons_zero, List.setIfInBounds_toArray, List.set_cons_zero, List.set_cons_succ]
  refine anyT_take0 (i := 18) (v := ?_) rfl (by kernel_rfl) (by kernel_rfl) (by kernel_rfl) (by kernel_rfl) (by kernel_rfl) (fun _ _ _ h => h) hC (.inl ⟨by rfl, fun _ _ => ?_⟩) ?_
  rotate_left 1
  · go_simp
    try with_reducible rfl
  simp only [Act.put, List.getElem_toArray, List.getElem_cons_succ, List.getElem_cons_zero, List.setIfInBounds_toArray, List.set_cons_zero, List.set_cons_succ]
  refine anyT_take0 (i := 19) (v := ?_) rfl (by kernel_rfl) (by kernel_rfl) (by kernel_rfl) (by kernel_rfl) (by kernel_rfl) (fun _ _ _ h => h) hC (.inl ⟨by rfl, fun _ _ => ?_⟩) ?_
  rotate_left 1
  · go_simp
    try with_reducible rfl
  simp only [Act.put, List.getElem_toArray, List.getElem_cons_succ, List.getElem_cons_zero, List.setIfInBounds_toArray, List.set_cons_zero, List.set_cons_succ]
  refine (show anyT _ _ _ _ _ _ 0 _ _ _ from ⟨by kernel_rfl, ?_⟩)
  have hr2 := hr.keeps hk2 (fun h => h)
  clear p0 p1 hC hroom
  generalize w.drew.drewN m2 = W2 at *
  go_wp2_with fail
  refine (clone_any _ PD W2 _ (BAt.keeps HPC.out hk2 (fun _ _ h => h)) (by have := HPL.out; omega)).mono ?_
  rintro e W3 ⟨v3, rfl, ho3, hk3⟩
  obtain ⟨a3, c3, rfl, -, -⟩ := BOwn.slice ho3
  have hk23 := hk2.trans hk3 (fun _ _ h => h)
  have hr3 := hr2.keeps hk3 (fun h => h)
  have hd3 : BAt W3 (fun b => X b ∧ b < W3.heap.size) (.slice a3 PD.length c3) PD := (ho3.bat.mono fun b hb => hX b (by have := (ho3.block b hb).1; have := hk2.size; omega)).ltHeap
  have hkX := hk23.alloc (.cells #[.int .i64 low, .slice a3 PD.length c3] 68)
  have hrX := hr3.alloc (.cells #[.int .i64 low, .slice a3 PD.length c3] 68)
  have hrp := RowAt.new W3 #[.int .i64 low, .slice a3 PD.length c3] 68
  have hdX := hd3.keepX ((Keeps.refl (fun _ => False) W3).alloc (.cells #[.int .i64 low, .slice a3 PD.length c3] 68)) (fun _ _ h => h)
  generalize hwx : W3.alloc (.cells #[.int .i64 low, .slice a3 PD.length c3] 68) = WX at hkX hrX hrp hdX
  obtain ⟨gp, hgp⟩ : ∃ gp, W3.heap.size = gp := ⟨_, rfl⟩
  rw [hgp] at hrp
  obtain ⟨x0, x1⟩ := hrp.two
  go_wp2_with fail
  refine (with_any X g (low, PD) (.slice a3 PD.length c3) (.slice ba l.length bc) pv room next L WX hrX (hL.keeps hkX (fun _ _ h => h)) hdX (fun b hb => hX b (by have := hkX.size; omega)) hbp HB.out hl).mono ?_
  rintro e W4 ⟨v4, rfl, hT4, hk4⟩
  rw [HM.out] at hT4
  have hr4 := hrX.keeps hk4 (fun h => h)
  have hk04 := hkX.trans hk4 (fun _ _ h => h)
  clear x0 x1 hrp hdX hrX hkX hd3 hr3 hk23 ho3 hk3 hr2 hwx hk2
  obtain ⟨mb, mo, mc, dv4, rfl, hd4, m0, m1⟩ := hT4.at 0 (by simp)
  simp only [List.getElem_cons_zero, Nat.zero_mul, Nat.add_zero] at hd4 m0 m1
  obtain ⟨d4a, d4c, rfl, -, -⟩ := hd4.slice
  obtain ⟨o3, ho3, hT5⟩ := hT4.tail
  have hml : ((a, d) :: rest).length = rest.length + 1 := List.length_cons
  have hlr : (1 : Int) ≤ ((rest.length : Int) + 1) := by omega
  obtain ⟨_, ec, eq4, hmc, -⟩ := hT4.slice
  simp only [Value.slice.injEq, true_and] at eq4
  obtain ⟨-, rfl⟩ := eq4
  rw [hml] at hmc
  have hmc1 : 1 ≤ mc := by omega
  have hmc2 : (1 : Int) ≤ (mc : Int) := by omega
  have p1 : W4.cell? ⟨g, 1, none⟩ = some (.int .i64 next) := hr4.cell 1
  have p2 : W4.cell? ⟨g, 2, none⟩ = some (.slice ba l.length bc) := hr4.cell 2
  have p3 : W4.cell? ⟨g, 3, none⟩ = some pv := hr4.cell 3
  have f1 := hr4.frozen 1
  have f2 := hr4.frozen 2
  have f3 := hr4.frozen 3
  simp only [List.length_cons] at hT4
  have hoB4 := ho.keeps hk04 (fun _ _ h => h)
  have hs04 := hk04.size
  have HFR := Lib.hid hfr
  have HO := Lib.hid hoB4
  have HXb := Lib.hid hXb
  have HXg := Lib.hid hXg
  clear hfr hoB4 hXb hXg ho hX hL hd HPC HM HB HPL hbd
  by_cases hax : a = next
  · obtain ⟨rfl, rfl⟩ : front = d ∧ R = rest := by
      rcases HFR.out with ⟨-, h, h'⟩ | ⟨h, -, -⟩
      · exact ⟨h, h'⟩
      · exact absurd hax h
    subst hax
    have hba : (a == a) = true := by simp
    by_cases h64 : (64 : Int) < (R.length : Int)
    · go_wp2
      go_quiet (fail)
      revert nq
      intro n1
      go_wp2
      go_quiet (fail)
      go_wp2
      go_ret2
      unfold Put1R
      exact .inl ⟨by omega, rfl, hk04.drewN _⟩
    · go_wp2
      go_quiet (fail)
      revert nq
      intro n1
      go_wp2
      go_quiet (fail)
      have hk5 : Keeps (· = g) W4 ((W4.drewN (n1 + nq)).setCell ⟨g, 3, none⟩ (.slice (some ⟨mb, o3, none⟩) R.length (mc - 1))) := ((Keeps.refl (· = g) W4).drewN _).setCell _ _ (.inl rfl)
      have hr5 := (hr4.drewN (n1 + nq)).set 3 (.slice (some ⟨mb, o3, none⟩) R.length (mc - 1))
      have hd5 := hd4.keepX hk5 (fun b hb => HXg.out b hb)
      have hT6 := hT5.keeps hk5 (fun b hb => HXg.out b hb)
      have ho5 := HO.out.keeps hk5 (fun b hb e => by subst e; exact hgb hb)
      have hs5 := hk5.size
      obtain ⟨W5, hW5⟩ : ∃ W5, (W4.drewN (n1 + nq)).setCell ⟨g, 3, none⟩ (.slice (some ⟨mb, o3, none⟩) R.length (mc - 1)) = W5 := ⟨_, rfl⟩
      rw [hW5] at hk5 hr5 hd5 hT6 ho5 hs5
      obtain ⟨v6, w6, hrun, ho6, hk6, hp6⟩ := run_append_bytes (ty := 30) ho5 hd5.readX (by omega) (by omega)
      obtain ⟨M, hM⟩ : ∃ M, l ++ front = M := ⟨_, rfl⟩
      rw [hM] at ho6
      obtain ⟨a6, c6, rfl, -, -⟩ := BOwn.slice ho6
      rw [← hW5] at hrun
      have HR := Lib.hid hrun
      have hr6 := hr5.keeps hk6 hgb
      have p1' : w6.cell? ⟨g, 1, none⟩ = some (.int .i64 a) := hr6.cell 1
      have p2' : w6.cell? ⟨g, 2, none⟩ = some (.slice ba l.length bc) := hr6.cell 2
      have f1' := hr6.frozen 1
      have f2' := hr6.frozen 2
      have q8 := i64_fit (a + (front.length : Int)) (by omega) (by omega)
      have hr7 : RowAt ((w6.setCell ⟨g, 2, none⟩ (.slice a6 M.length c6)).setCell ⟨g, 1, none⟩ (.int .i64 (a + (front.length : Int)))) g #[.int .i64 room, .int .i64 (a + (front.length : Int)), .slice a6 M.length c6, .slice (some ⟨mb, o3, none⟩) R.length (mc - 1)] 66 := ((hr6.set 2 _).set 1 _).eq rfl
      have hk67 := ((Keeps.refl (· = g) w6).setCell ⟨g, 2, none⟩ (.slice a6 M.length c6) (.inl rfl)).setCell ⟨g, 1, none⟩ (.int .i64 (a + (front.length : Int))) (.inl rfl)
      have hT6' := hT6.mono (Y := fun b => X b ∧ b < W5.heap.size) (fun b h h' => ⟨h, h'⟩)
      have hT7 := ((hT6'.keeps hk6 (fun b hb e => HXb.out b hb.1 e)).keeps hk67 (fun b hb => HXg.out b hb.1)).mono (Y := OffG g (.slice a6 M.length c6) Z) (fun b hb _ => ⟨HXg.out b hb.1, fun e => by
        rcases hp6 with h | ⟨b', h, h'⟩
        · exact HXb.out b hb.1 (h ▸ e)
        · rw [h] at e
          have : b' = b := Option.some.inj e
          have := hb.2
          omega, hXz.out b hb.1⟩)
      have hg6 : (Value.slice a6 M.length c6).ownBlock ≠ some g := ho6.apart hr6 (by decide)
      have ho7 := ho6.keeps hk67 (fun b hb e => by subst e; exact hg6 hb)
      have hkF := (((hk04.mono (S' := fun b => b = g ∨ (Value.slice ba l.length bc).ownBlock = some b) (fun _ _ h => h.elim)).trans hk5 (fun _ _ h => .inl h)).trans hk6 (fun _ _ h => .inr h)).trans hk67 (fun _ _ h => .inl h)
      have hpl : (Value.slice a6 M.length c6).ownBlock = (Value.slice ba l.length bc).ownBlock ∨ ∃ b, (Value.slice a6 M.length c6).ownBlock = some b ∧ w.heap.size ≤ b := hp6.imp id (fun ⟨b, h1, h2⟩ => ⟨b, h1, by omega⟩)
      have HMM := Lib.hid hM
      have hR64 : R.length ≤ 64 := by omega
      clear hrun hW5 hM hp6 hT6' hT6 hk6 hk67 hr6 hg6 ho6 ho5 hd5 hr5 hk5 hT5 hT4
      go_wp2_with (at_builtin; refine Lib.wpList_append_run _ rfl _ _ _ _ rfl _ _ rfl rfl _ _ HR.out ?_)
      go_ret2
      unfold Put1R
      rw [HMM.out]
      exact .inr ⟨hR64, rfl, _, _, hr7, ho7, hT7, hkF, hpl⟩
  · obtain ⟨rfl, rfl⟩ : front = [] ∧ R = (a, d) :: rest := by
      rcases HFR.out with ⟨h, -, -⟩ | ⟨-, h, h'⟩
      · exact absurd h hax
      · exact ⟨h, h'⟩
    have hba : (a == next) = false := beq_eq_false_iff_ne.2 hax
    by_cases h64 : (64 : Int) < (rest.length : Int) + 1
    · go_wp2
      go_quiet (fail)
      go_wp2
      go_ret2
      unfold Put1R
      exact .inl ⟨by simp only [List.length_cons]; omega, rfl, hk04.drewN _⟩
    · obtain ⟨i9, hi9, hz9, hs9, -⟩ := info_parts info_u8
      have hap : ∀ (w : World), (Builtin.append_ #[30, 30] 30 #[.slice ba l.length bc, .slice none 0 0]).run Try.prog w = .ok (.slice ba l.length bc) w := fun w =>
        run_append_nothing (P := Try.prog) w 30 30 30 5 i9 Try.underlying30 hi9 ba l.length bc hbc (.slice none 0 0) (SAt.src (p := fun _ => True) Try.underlying30 (by rw [hs9]; exact SAt.nil w _ 1) (by simp) (by omega))
      have HAP := Lib.hid hap
      clear hap
      go_wp2
      go_quiet (fail)
      have hk5 := ((((Keeps.refl (· = g) W4).drewN nq).setCell ⟨g, 3, none⟩ (.slice (some ⟨mb, mo, none⟩) (rest.length + 1) mc) (.inl rfl)).setCell ⟨g, 2, none⟩ (.slice ba l.length bc) (.inl rfl)).setCell ⟨g, 1, none⟩ (.int .i64 next) (.inl rfl)
      have hr5 := (((hr4.drewN nq).set 3 (.slice (some ⟨mb, mo, none⟩) (rest.length + 1) mc)).set 2 (.slice ba l.length bc)).set 1 (.int .i64 next)
      have hT6 := (hT4.keeps hk5 (fun b hb => HXg.out b hb)).mono (Y := OffG g (.slice ba l.length bc) Z) (fun b hb _ => ⟨HXg.out b hb, HXb.out b hb, hXz.out b hb⟩)
      have ho5 := HO.out.keeps hk5 (fun b hb e => by subst e; exact hgb hb)
      have hkF := (hk04.mono (S' := fun b => b = g ∨ (Value.slice ba l.length bc).ownBlock = some b) (fun _ _ h => h.elim)).trans hk5 (fun _ _ h => .inl h)
      go_wp2_with (at_builtin; refine Lib.wpList_append_run _ rfl _ _ _ _ rfl _ _ rfl rfl _ _ (HAP.out _) ?_)
      go_ret2
      unfold Put1R
      refine .inr ⟨by simp only [List.length_cons]; omega, rfl, .slice ba l.length bc, .slice (some ⟨mb, mo, none⟩) (rest.length + 1) mc, hr5.eq (by simp), by rw [List.append_nil]; exact ho5, hT6, hkF, .inl rfl⟩
end Go.Proofs.Ytiodmhcmciohnaa

/-! The plain law of merging: parts of one stream stay parts of it. -/
namespace Go.Proofs.Ytiodmhcmciohnaa
set_option linter.unusedVariables false
set_option linter.unusedSimpArgs false
open Go.RowKit

/-- A part of the stream, from a place x on. -/
structure Of (all : List UInt8) (x : Int) (q : Pt) : Prop where
  low : x ≤ q.1
  ne : q.2 ≠ []
  pre : q.2 <+: all.drop q.1.toNat
structure Good (all : List UInt8) (x : Int) (L : List Pt) : Prop where
  sep : L.Pairwise (fun a b => endF a < b.1)
  of : ∀ q ∈ L, Of all x q

theorem pre_sub {all d : List UInt8} {a : Nat} (h : d <+: all.drop a) (j n : Nat) (hj : j ≤ d.length) : (d.drop j).take n <+: all.drop (a + j) := by
  obtain ⟨r, hr⟩ := h
  rw [← List.drop_drop, ← hr, List.drop_append_of_le_length hj]
  exact (List.take_prefix n _).trans (List.prefix_append _ _)
theorem pre_ext {all d e : List UInt8} {a b m : Nat} (h : d <+: all.drop a) (h' : e <+: all.drop b) (hm : b + m = a + d.length) (hme : m ≤ e.length) : d ++ e.drop m <+: all.drop a := by
  obtain ⟨r, hr⟩ := h
  obtain ⟨r', hr'⟩ := h'
  have h1 : (all.drop a).drop d.length = r := by rw [← hr, List.drop_left]
  have h2 : (all.drop b).drop m = e.drop m ++ r' := by rw [← hr', List.drop_append_of_le_length hme]
  rw [List.drop_drop] at h1 h2
  rw [hm] at h2
  refine ⟨r', ?_⟩
  rw [← hr, List.append_assoc, ← h2, h1]

theorem addF_good {all : List UInt8} {x : Int} {L : List Pt} {q : Pt} (hx : 0 ≤ x) (h : Good all x L) (hq : x ≤ q.1) (hp : q.2 <+: all.drop q.1.toNat) : Good all x (addF L q) := by
  rcases List.eq_nil_or_concat L with rfl | ⟨K, l, rfl⟩
  · unfold addF
    simp only [List.getLast?_nil]
    split
    · exact ⟨List.Pairwise.nil, fun _ h => by cases h⟩
    next h0 =>
      refine ⟨List.pairwise_singleton _ _, fun r hr => ?_⟩
      obtain rfl : r = q := by simpa using hr
      exact ⟨hq, by simpa using h0, hp⟩
  · simp only [List.concat_eq_append] at *
    rw [addF_last]
    obtain ⟨hs, ho⟩ := h
    have hl := ho l (by simp)
    rw [List.pairwise_append] at hs
    obtain ⟨hs1, -, hs3⟩ := hs
    split
    next hle =>
      split
      next hm =>
        refine ⟨List.pairwise_append.2 ⟨hs1, List.pairwise_singleton _ _, fun a ha b hb => ?_⟩, fun r hr => ?_⟩
        · obtain rfl := List.mem_singleton.1 hb
          exact hs3 a ha l (by simp)
        · rcases List.mem_append.1 hr with hr | hr
          · exact ho r (List.mem_append_left _ hr)
          · obtain rfl := List.mem_singleton.1 hr
            refine ⟨hl.low, by simp [hl.ne], ?_⟩
            have h1 := hl.low
            refine pre_ext hl.pre hp ?_ (by omega)
            unfold endF at *
            omega
      · exact ⟨List.pairwise_append.2 ⟨hs1, List.pairwise_singleton _ _, hs3⟩, ho⟩
    next hgt =>
      split
      · exact ⟨List.pairwise_append.2 ⟨hs1, List.pairwise_singleton _ _, hs3⟩, ho⟩
      next h0 =>
        refine ⟨List.pairwise_append.2 ⟨List.pairwise_append.2 ⟨hs1, List.pairwise_singleton _ _, hs3⟩, List.pairwise_singleton _ _, fun a ha b hb => ?_⟩, fun r hr => ?_⟩
        · obtain rfl := List.mem_singleton.1 hb
          have hlq : endF l < b.1 := by omega
          rcases List.mem_append.1 ha with ha | ha
          · have h1 := hs3 a ha l (by simp)
            unfold endF at *
            omega
          · obtain rfl := List.mem_singleton.1 ha
            exact hlq
        · rcases List.mem_append.1 hr with hr | hr
          · exact ho r hr
          · obtain rfl := List.mem_singleton.1 hr
            exact ⟨hq, by simpa using h0, hp⟩
theorem addF_head {L : List Pt} {q : Pt} {a : Int} {d : List UInt8} {r : List Pt} (h : L = (a, d) :: r) : ∃ d' r', addF L q = (a, d') :: r' := by
  rcases List.eq_nil_or_concat L with h0 | ⟨K, l, hc⟩
  · rw [h0] at h; cases h
  · rw [List.concat_eq_append] at hc
    rw [hc, addF_last]
    rw [hc] at h
    cases K with
    | nil =>
      simp only [List.nil_append, List.cons.injEq] at h
      obtain ⟨rfl, rfl⟩ := h
      split
      · split
        · exact ⟨_, _, rfl⟩
        · exact ⟨_, _, rfl⟩
      · split
        · exact ⟨_, _, rfl⟩
        · exact ⟨_, _, rfl⟩
    | cons k K =>
      simp only [List.cons_append, List.cons.injEq] at h
      obtain ⟨rfl, rfl⟩ := h
      split
      · split
        · exact ⟨_, _, rfl⟩
        · exact ⟨_, _, rfl⟩
      · split
        · exact ⟨_, _, rfl⟩
        · exact ⟨_, _, rfl⟩
theorem addF_some {L : List Pt} {q : Pt} (h : L ≠ [] ∨ q.2 ≠ []) : addF L q ≠ [] := by
  cases L with
  | nil =>
    have h0 : q.2 ≠ [] := h.resolve_left (fun h => h rfl)
    unfold addF
    simp only [List.getLast?_nil]
    rw [if_neg (by simpa using h0)]
    simp
  | cons k K =>
    obtain ⟨d', r', e⟩ := addF_head (q := q) (L := k :: K) (a := k.1) (d := k.2) (r := K) rfl
    rw [e]
    simp

/-- What holds while one more part is merged. -/
structure FoldG (all : List UInt8) (x : Int) (p : Pt) (st : List Pt × Int) : Prop where
  good : Good all x st.1
  low : p.1 ≤ st.2
theorem sub_pre {all : List UInt8} {x : Int} {p : Pt} (hx : 0 ≤ x) (hp : Of all x p) {a : Int} (h1 : p.1 ≤ a) (h2 : a < endF p) (n : Nat) : (p.2.drop (a - p.1).toNat).take n <+: all.drop a.toNat := by
  have := hp.low
  have := pre_sub hp.pre (a - p.1).toNat n (by unfold endF at h2; omega)
  rwa [show p.1.toNat + (a - p.1).toNat = a.toNat by omega] at this
theorem stepF_g {all : List UInt8} {x : Int} {p q : Pt} {st : List Pt × Int} (hx : 0 ≤ x) (hp : Of all x p) (hq : Of all x q) (h : FoldG all x p st) : FoldG all x p (stepF p st q) := by
  unfold stepF
  refine ⟨?_, by have := h.low; show p.1 ≤ max _ _; omega⟩
  refine addF_good hx ?_ hq.low hq.pre
  split
  next hc => exact addF_good hx h.good (by have := h.low; have := hp.low; show x ≤ st.2; omega) (sub_pre hx hp h.low hc.2 _)
  · exact h.good
theorem fold_g {all : List UInt8} {x : Int} {p : Pt} (hx : 0 ≤ x) (hp : Of all x p) : ∀ (L : List Pt) (st : List Pt × Int), (∀ q ∈ L, Of all x q) → FoldG all x p st → FoldG all x p (L.foldl (stepF p) st)
  | [], st, _, h => h
  | q :: L, st, hL, h => fold_g hx hp L _ (fun r hr => hL r (List.mem_cons_of_mem _ hr)) (stepF_g hx hp (hL q List.mem_cons_self) h)
theorem mergeF_good {all : List UInt8} {x : Int} {p : Pt} {L : List Pt} (hx : 0 ≤ x) (hp : Of all x p) (hL : ∀ q ∈ L, Of all x q) : Good all x (mergeF L p) := by
  have h := fold_g hx hp L ([], p.1) hL ⟨⟨List.Pairwise.nil, fun _ h => by cases h⟩, Int.le_refl _⟩
  unfold mergeF endsF
  split
  next hc =>
    have h1 := sub_pre hx hp h.low hc p.2.length
    rw [List.take_of_length_le (by rw [List.length_drop]; omega)] at h1
    exact addF_good hx h.good (by have := h.low; have := hp.low; show x ≤ _; omega) h1
  · exact h.good
theorem fold_head {p : Pt} {a : Int} : ∀ (L : List Pt) (st : List Pt × Int), (∃ d r, st.1 = (a, d) :: r) → ∃ d r, (L.foldl (stepF p) st).1 = (a, d) :: r
  | [], st, h => h
  | q :: L, st, h => fold_head L _ (by
    obtain ⟨d, r, e⟩ := h
    unfold stepF
    dsimp only
    split
    · obtain ⟨d1, r1, e1⟩ := addF_head (q := (st.2, (p.2.drop (st.2 - p.1).toNat).take ((min q.1 (endF p) - p.1).toNat - (st.2 - p.1).toNat))) e
      exact addF_head e1
    · exact addF_head e)
theorem endsF_head {p : Pt} {a : Int} {st : List Pt × Int} (h : ∃ d r, st.1 = (a, d) :: r) : ∃ d r, endsF p st = (a, d) :: r := by
  obtain ⟨d, r, e⟩ := h
  unfold endsF
  split
  · exact addF_head e
  · exact ⟨d, r, e⟩
/-- Something comes of it. -/
theorem mergeF_some {all : List UInt8} {x : Int} {p : Pt} {L : List Pt} (hp : p.2 ≠ []) (hL : ∀ q ∈ L, Of all x q) : ∃ a d r, mergeF L p = (a, d) :: r := by
  cases L with
  | nil =>
    have hpl : 0 < p.2.length := List.length_pos_iff.2 hp
    have e0 : mergeF [] p = if p.1 < endF p then addF [] (p.1, p.2.drop (p.1 - p.1).toNat) else [] := rfl
    rw [e0, if_pos (by unfold endF; omega)]
    have h : addF [] (p.1, p.2.drop (p.1 - p.1).toNat) ≠ [] := addF_some (.inr (by simpa using hp))
    obtain ⟨k, K, e⟩ := List.exists_cons_of_ne_nil h
    exact ⟨k.1, k.2, K, e⟩
  | cons q L =>
    have h : (stepF p ([], p.1) q).1 ≠ [] := addF_some (.inr (hL q List.mem_cons_self).ne)
    obtain ⟨k, K, e⟩ := List.exists_cons_of_ne_nil h
    obtain ⟨d1, r1, e1⟩ := fold_head (p := p) (a := k.1) L (stepF p ([], p.1) q) ⟨k.2, K, e⟩
    obtain ⟨d2, r2, e2⟩ := endsF_head (p := p) (a := k.1) ⟨d1, r1, e1⟩
    exact ⟨k.1, d2, r2, e2⟩
/-- Where the new part comes ahead of all others, it begins what comes of it. -/
theorem mergeF_first {p : Pt} {L : List Pt} (hp : p.2 ≠ []) (hL : ∀ q ∈ L, p.1 < q.1) : ∃ d r, mergeF L p = (p.1, d) :: r := by
  have hpl : 0 < p.2.length := List.length_pos_iff.2 hp
  have one : ∀ d : List UInt8, d ≠ [] → addF [] (p.1, d) = [(p.1, d)] := fun d hd => by
    unfold addF
    simp only [List.getLast?_nil]
    rw [if_neg (by simpa using hd)]
    rfl
  cases L with
  | nil =>
    have e0 : mergeF [] p = if p.1 < endF p then addF [] (p.1, p.2.drop (p.1 - p.1).toNat) else [] := rfl
    rw [e0, if_pos (by unfold endF; omega), one _ (by simpa using hp)]
    exact ⟨_, _, rfl⟩
  | cons q L =>
    have hq := hL q List.mem_cons_self
    refine endsF_head (fold_head L _ ?_)
    unfold stepF
    dsimp only
    rw [if_pos ⟨hq, by unfold endF; omega⟩, one _ (by
      intro h
      have := congrArg List.length h
      rw [List.length_take, List.length_drop, List.length_nil] at this
      unfold endF at this
      omega)]
    exact addF_head rfl
end Go.Proofs.Ytiodmhcmciohnaa

/-! (*Receiver).Read in general; slices.Delete of the first bytes. -/
namespace Go.Proofs.Ytiodmhcmciohnaa
set_option linter.unusedVariables false
set_option linter.unusedSimpArgs false
open Go.RowKit

set_option maxRecDepth 100000 in
set_option maxHeartbeats 1000000 in
theorem del_any (g off c B n k : Nat) (l : List UInt8) (w : World) (hB : BOwn w B (.slice (some ⟨g, off, none⟩) l.length c) l) (h0 : 0 < n) (hk0 : 0 < k) (hnk : l.length = n + k) (hl : l.length ≤ 1000000) :
    Calls Try.prog 34 #[.slice (some ⟨g, off, none⟩) l.length c, .int .i64 0, .int .i64 n] w fun e w' => e = .returned (.slice (some ⟨g, off, none⟩) k c) ∧ Keeps (· = g) w w' ∧ BOwn w' B (.slice (some ⟨g, off, none⟩) k c) (l.drop n) := by
  obtain ⟨_, _, e, hlc, hcm⟩ := BOwn.slice hB
  simp only [Value.slice.injEq, true_and] at e
  obtain ⟨-, rfl⟩ := e
  simp only [maxLen] at hcm
  have hDl : (l.drop n).length = k := by rw [List.length_drop]; omega
  obtain ⟨o2, e2, hdrop, -⟩ := BAt.cut hB.bat n (by omega)
  have hcn : ¬ c = n := by omega
  rw [if_neg hcn] at e2
  simp only [Option.some.injEq, Addr.mk.injEq, and_true, true_and] at e2
  subst e2
  obtain ⟨D, hD⟩ : ∃ D, l.drop n = D := ⟨_, rfl⟩
  rw [hD] at hdrop hDl ⊢
  have hlk : l.length - n = k := by omega
  have hln : l.length - k = n := by omega
  rw [hlk] at hdrop
  have g1 : (0 : Int) < (n : Int) := by omega
  have g2 : (n : Int) ≤ (l.length : Int) := by omega
  have g2' : (l.length : Int) ≤ (c : Int) := by omega
  have g3 : ¬ (0 : Int) = (n : Int) := by omega
  have g4 : ((0 : Int) == (n : Int)) = false := beq_eq_false_iff_ne.2 (by omega)
  have g5 : (k : Int) ≤ (l.length : Int) := by omega
  have hck : ¬ c = k := by omega
  have HNK := Lib.hid hnk
  clear hD hnk
  go_enter Try.func34, Try.ntmps34
  go_wp2
  refine region_draws_tail 6 (by kernel_rfl) (by kernel_rfl) ?_
  simp only [List.take_succ_cons, List.take_zero, List.drop_succ_cons, List.drop_zero]
  repeat (go_big_quiet_step (fail))
  refine wpQuiet_nil ?_
  rintro _ ⟨nq, rfl⟩
  have hkq : Keeps (fun _ => False) w (w.drewN nq) := (Keeps.refl _ _).drewN nq
  have hBq := hB.keeps hkq (fun _ _ h => h)
  have hDq := hdrop.keeps hkq (fun _ _ h => h)
  obtain ⟨i, hi, hz, hs, hby⟩ := info_parts info_u8
  have hkk : Keeps (fun _ => False) w (w.drewN nq) := hkq
  obtain ⟨W, hW⟩ : ∃ W, w.drewN nq = W := ⟨_, rfl⟩
  rw [hW] at hkq hBq hDq ⊢
  have hB0 := hBq
  obtain ⟨b1, b0, b2⟩ := hB0
  rcases b2 with ⟨e, -, -⟩ | ⟨g', off', c', cs, hb, e, hlc', hcm', hr, h5, h6⟩
  · simp at e
  · simp only [Value.slice.injEq, Option.some.injEq, Addr.mk.injEq, and_true] at e
    obtain ⟨⟨rfl, rfl⟩, -, rfl⟩ := e
    obtain ⟨cs1, r1, r2, r3, r4⟩ := RowAt.setCells (bcells D) off W cs hr (by rw [bcells_length, hDl]; omega)
    have hap : (Builtin.append_ #[30, 30] 30 #[.slice (some ⟨g, off, none⟩) 0 c, .slice (some ⟨g, off + n, none⟩) k (c - n)]).run Try.prog W = .ok (.slice (some ⟨g, off, none⟩) k c) (W.setCells g off (bcells D)) := by
      have hsrc := SAt.src (tx := 30) Try.underlying30 hDq (bcells_one D) (by omega)
      have h := run_append_room_src (P := Try.prog) W 30 30 30 5 i Try.underlying30 hi g off 0 c _ D.length (bcells D) (by rw [hs]; exact hsrc) (by omega)
        (fun j hj => by rw [hr.cell, Array.getElem?_eq_getElem (by rw [bcells_length] at hj; omega)]; rfl) (fun j _ => hr.frozen _)
      simp only [Nat.zero_add, Nat.zero_mul, Nat.add_zero, hDl] at h
      exact h
    have hks1 : Keeps (· = g) W (W.setCells g off (bcells D)) := Keeps.setCells (S := (· = g)) (.inl rfl) _ _ _ (Keeps.refl _ _)
    obtain ⟨W1, hW1⟩ : ∃ W1, W.setCells g off (bcells D) = W1 := ⟨_, rfl⟩
    rw [hW1] at hap r1 hks1
    obtain ⟨cs2, s1, s2, s3, s4⟩ := RowAt.setCells (List.replicate n (Value.int .u8 0)) (off + k) W1 cs1 r1 (by rw [List.length_replicate, r2]; omega)
    have hcl : (Builtin.clear_ #[30] 0 #[.slice (some ⟨g, off + k, none⟩) n (c - k)]).run Try.prog W1 = .ok (.tuple #[]) (W1.setCells g (off + k) (List.replicate n (.int .u8 0))) :=
      Lib.run_clear_slice (P := Try.prog) W1 30 5 0 (.int .u8 0) Try.underlying30 (fun w => by simp [zeroValue, typeInfo, hi, hz]) rfl rfl g (off + k) n (c - k) h0
        (fun j hj => by rw [r1.cell, Array.getElem?_eq_getElem (by omega)]; rfl) (fun j _ => r1.frozen _)
    have hks2 : Keeps (· = g) W1 (W1.setCells g (off + k) (List.replicate n (.int .u8 0))) := Keeps.setCells (S := (· = g)) (.inl rfl) _ _ _ (Keeps.refl _ _)
    have HAP := Lib.hid hap
    have HLN := Lib.hid hln
    have hres : BOwn (W1.setCells g (off + k) (List.replicate n (.int .u8 0))) B (.slice (some ⟨g, off, none⟩) k c) D :=
      ⟨by rw [bcells_length, Nat.mul_one], bcells_one D, .inr ⟨g, off, c, cs2, hb, by rw [hDl], by rw [hDl]; omega, hcm', s1, by rw [s2, r2]; exact h5, fun j hj => by
        rw [s4 _ (.inl (by omega)), r3 j (by rw [bcells_length]; omega)]⟩⟩
    have hkF := ((hkk.mono (S' := (· = g)) (fun _ _ h => h.elim)).trans (hW ▸ hks1) (fun _ _ h => h)).trans hks2 (fun _ _ h => h)
    have HRES := Lib.hid hres
    have HKF := Lib.hid hkF
    clear hap hW hW1 hres hkF hks1 hks2 s1 s2 s3 s4 r1 r2 r3 r4 hr h5 h6 b1 b0 hBq hDq hkq hkk hdrop hB hlc'
    go_wp2_with (at_builtin; refine Lib.wpList_append_run _ rfl _ _ _ _ rfl _ _ rfl rfl _ _ HAP.out ?_)
    go_ret
    exact ⟨rfl, HKF.out, HRES.out⟩

/-- Delete of the first bytes, however many. -/
theorem delete_any (B n c : Nat) (a : Option Addr) (l : List UInt8) (w : World) (hB : BOwn w B (.slice a l.length c) l) (hn : n ≤ l.length) (hl : l.length ≤ 1000000) :
    Calls Try.prog 34 #[.slice a l.length c, .int .i64 0, .int .i64 n] w fun e w' => e = .returned (.slice a (l.length - n) c) ∧ Keeps (fun b => (Value.slice a l.length c).ownBlock = some b) w w' ∧ BOwn w' B (.slice a (l.length - n) c) (l.drop n) := by
  rcases Nat.eq_zero_or_pos n with h0 | h0
  · subst h0
    rw [Nat.sub_zero, List.drop_zero]
    obtain ⟨_, _, e, hlc, hcm⟩ := BOwn.slice hB
    simp only [Value.slice.injEq, true_and] at e
    obtain ⟨-, rfl⟩ := e
    simp only [maxLen] at hcm
    have g2' : (l.length : Int) ≤ (c : Int) := by omega
    go_enter Try.func34, Try.ntmps34
    go_wp2
    go_ret
    exact ⟨rfl, Keeps.refl _ _, hB⟩
  · obtain ⟨g, off, c', e, -, -, -⟩ := BOwn.place hB (by omega)
    simp only [Value.slice.injEq, true_and] at e
    obtain ⟨rfl, rfl⟩ := e
    by_cases hk : l.length = n
    · have h := delall_any g off c B l w hB (by omega) hl
      rw [hk, Nat.sub_self, List.drop_eq_nil_of_le (by omega)]
      rw [hk] at h
      exact h.mono fun e w' ⟨h1, h2, h3⟩ => ⟨h1, h2.mono (fun b _ e => by subst e; rfl), h3⟩
    · exact (del_any g off c B n (l.length - n) l w hB h0 (by omega) (by omega) hl).mono fun e w' ⟨h1, h2, h3⟩ => ⟨h1, h2.mono (fun b _ e => by subst e; rfl), h3⟩

set_option maxRecDepth 100000 in
set_option maxHeartbeats 1000000 in
theorem read_any (g B m : Nat) (room next n : Int) (bv pv : Value) (l : List UInt8) (w : World) (hr : RowAt w g #[.int .i64 room, .int .i64 next, bv, pv] 66) (hB : BOwn w B bv l) (hl : l.length ≤ 1000000) (hn0 : 0 ≤ n) (hm : (m : Int) = if (l.length : Int) < n then (l.length : Int) else n) :
    Calls Try.prog 14 #[.pointer (some ⟨g, 0, none⟩), .int .i64 n] w fun e w' => ∃ v, e = .returned (.tuple #[v, .int .i64 0]) ∧ BOwn w' w.heap.size v (l.take m) ∧ Keeps (fun b => b = g ∨ bv.ownBlock = some b) w w' ∧
      ∃ bv', RowAt w' g #[.int .i64 room, .int .i64 next, bv', pv] 66 ∧ BOwn w' B bv' (l.drop m) ∧ bv'.ownBlock = bv.ownBlock := by
  obtain ⟨a, c, rfl, hlc, hcm⟩ := BOwn.slice hB
  simp only [maxLen] at hcm
  have hml : m ≤ l.length := by split at hm <;> omega
  have hgb : (Value.slice a l.length c).ownBlock ≠ some g := hB.apart hr (by decide)
  have p2 : w.cell? ⟨g, 2, none⟩ = some (.slice a l.length c) := hr.cell 2
  have hn0' : ¬ n < 0 := by omega
  have hmn : (if (l.length : Int) < n then (l.length : Int) else n) = (m : Int) := hm.symm
  have g2 : (m : Int) ≤ (c : Int) := by omega
  have htk := BAt.take hB.bat m hml
  obtain ⟨T, hT⟩ : ∃ T, l.take m = T := ⟨_, rfl⟩
  have hTl : T.length = m := by rw [← hT, List.length_take]; omega
  rw [hT] at htk ⊢
  clear hT hm
  go_enter Try.func14, Try.ntmps14
  go_wp2_with fail
  refine (clone_any _ T w _ htk (by omega)).mono ?_
  rintro e w2 ⟨v2, rfl, ho2, hk2⟩
  obtain ⟨a2, c2, rfl, -, -⟩ := BOwn.slice ho2
  have hr2 := hr.keeps hk2 (fun h => h)
  have hB2 := hB.keeps hk2 (fun _ _ h => h)
  have p2' := hk2.cell p2 (fun h => h)
  go_wp2_with fail
  refine (delete_any B m c a l w2 hB2 hml hl).mono ?_
  rintro e w3 ⟨rfl, hk3, ho3⟩
  have hr3 := hr2.keeps hk3 hgb
  have f23 := hr3.frozen 2
  have p23 : w3.cell? ⟨g, 2, none⟩ = some (.slice a l.length c) := hr3.cell 2
  have hgk : (Value.slice a (l.length - m) c).ownBlock = (Value.slice a l.length c).ownBlock := by cases a <;> rfl
  obtain ⟨k, hk⟩ : ∃ k, l.length - m = k := ⟨_, rfl⟩
  rw [hk] at ho3 hgk ⊢
  have hr4 : RowAt (w3.setCell ⟨g, 2, none⟩ (.slice a k c)) g #[.int .i64 room, .int .i64 next, .slice a k c, pv] 66 := (hr3.set 2 _).eq rfl
  have hk34 := (Keeps.refl (· = g) w3).setCell ⟨g, 2, none⟩ (.slice a k c) (.inl rfl)
  have hgl := hr.lt
  have ho4 := (ho2.keeps hk3 (fun b hb e => by have := (ho2.block b hb).1; have := (hB.block b e).2; omega)).keeps hk34 (fun b hb e => by have := (ho2.block b hb).1; omega)
  have ho5 := ho3.keeps hk34 (fun b hb e => by subst e; exact hgb (hgk ▸ hb))
  have hkF : Keeps (fun b => b = g ∨ (Value.slice a l.length c).ownBlock = some b) w (w3.setCell ⟨g, 2, none⟩ (.slice a k c)) :=
    ((hk2.mono (fun _ _ h => h.elim)).trans hk3 (fun b _ e => .inr e)).trans hk34 (fun b _ e => .inl e)
  rw [hTl] at ho4
  go_wp2
  go_ret2
  exact ⟨_, rfl, ho4, hkF, _, hr4, ho5, hgk⟩
end Go.Proofs.Ytiodmhcmciohnaa

/-! What stands while a stream's parts are put and read. -/
namespace Go.Proofs.Ytiodmhcmciohnaa
set_option linter.unusedVariables false
set_option linter.unusedSimpArgs false
open Go.RowKit

theorem RowAt.neq {w : World} {a b T T' : Nat} {cs cs' : Array Value} (h : RowAt w a cs T) (h' : RowAt w b cs' T') (hT : T ≠ T') : a ≠ b := by
  rintro rfl
  have : some (Obj.cells cs T (0, 0)) = some (Obj.cells cs' T' (0, 0)) := h.symm.trans h'
  simp only [Option.some.injEq, Obj.cells.injEq] at this
  exact hT this.2.1

structure RecvS (Z : Nat → Prop) (w : World) (g : Nat) (room : Int) (all : List UInt8) (next : Nat) (l : List UInt8) (L : List Pt) (bv pv : Value) (W : World) : Prop where
  hr : RowAt W g #[.int .i64 room, .int .i64 next, bv, pv] 66
  ho : BOwn W w.heap.size bv l
  hL : TRd W (OffG g bv Z) pv L
  gd : Good all ((next : Int) + 1) L
  ll : L.length ≤ 64
  nx : next ≤ all.length
  zb : ∀ b, bv.ownBlock = some b → ¬ Z b
  gg : w.heap.size ≤ g
  hk : Keeps (fun _ => False) w W

variable {Z : Nat → Prop} {w W : World} {g next : Nat} {room : Int} {all l : List UInt8} {L : List Pt} {bv pv : Value}

theorem RecvS.keeps {W' : World} (h : RecvS Z w g room all next l L bv pv W) (hk : Keeps (fun _ => False) W W') : RecvS Z w g room all next l L bv pv W' :=
  ⟨h.hr.keeps hk (fun h => h), h.ho.keeps hk (fun _ _ h => h), h.hL.keeps hk (fun _ _ h => h), h.gd, h.ll, h.nx, h.zb, h.gg, h.hk.trans hk (fun _ _ h => h)⟩
/-- Blocks of another's are written. -/
theorem RecvS.other {Z' : Nat → Prop} {W' : World} (h : RecvS Z w g room all next l L bv pv W) (hk : Keeps Z W W') (hg : ¬ Z g) (hZ : ∀ b, Z b → w.heap.size ≤ b) (hZ' : ∀ b, Z' b → Z b ∨ W.heap.size ≤ b) : RecvS Z' w g room all next l L bv pv W' := by
  have hL := h.hL.mono (Y := fun b => OffG g bv Z b ∧ b < W.heap.size) (fun b hb hb' => ⟨hb, hb'⟩)
  refine ⟨h.hr.keeps hk hg, h.ho.keeps hk h.zb, (hL.keeps hk (fun b hb => hb.1.2.2)).mono (fun b hb _ => ⟨hb.1.1, hb.1.2.1, fun e => ?_⟩), h.gd, h.ll, h.nx, fun b hb e => ?_, h.gg, h.hk.from hk hZ⟩
  · rcases hZ' b e with h1 | h1
    · exact hb.1.2.2 h1
    · have := hb.2; omega
  · rcases hZ' b e with h1 | h1
    · exact h.zb b hb h1
    · have := (h.ho.block b hb).2; omega
theorem Of.mono {all : List UInt8} {x y : Int} {q : Pt} (h : Of all x q) (hxy : y ≤ x) : Of all y q := ⟨Int.le_trans hxy h.low, h.ne, h.pre⟩
theorem Of.bd {all : List UInt8} {x : Int} {q : Pt} (h : Of all x q) (hx : 0 ≤ x) (ha : all.length ≤ 1000000) : Bd q := by
  have h1 := h.pre.length_le
  have h2 := List.length_pos_iff.2 h.ne
  have h3 := h.low
  rw [List.length_drop] at h1
  unfold Bd endF
  omega
theorem RecvS.bd (h : RecvS Z w g room all next l L bv pv W) (ha : all.length ≤ 1000000) : ∀ r ∈ L, Bd r := fun r hr => (h.gd.of r hr).bd (by omega) ha

/-- What a Put does to a receiver of the stream. -/
def PutS (Z : Nat → Prop) (w : World) (g : Nat) (room : Int) (all : List UInt8) (next : Nat) (l : List UInt8) (k N : Nat) (bv : Value) (W : World) (e : Ending) (w' : World) : Prop :=
  ∃ (n f : Nat) (L' : List Pt) (bv' pv' : Value), e = .returned (.tuple #[.int .i64 n, .int .i64 f]) ∧ RecvS Z w g room all (next + n) (l ++ (all.drop next).take n) L' bv' pv' w' ∧ (f = 0 ∨ f = 7 ∧ n = 0) ∧ n ≤ all.length ∧
    (k ≤ next → next < k + N → (l.length : Int) < room → f = 0 → n ≠ 0) ∧ Keeps (fun b => b = g ∨ bv.ownBlock = some b) W w'

theorem put_s (h : RecvS Z w g room all next l L bv pv W) (hZ : ∀ b, Z b → b < W.heap.size) (k N : Nat) (dv : Value) (hd : BRd W dv ((all.drop k).take N)) (hkN : k + N ≤ all.length) (ha : all.length ≤ 1000000) (h5 : 0 ≤ room) (h6 : room ≤ 65535) (hll : l.length ≤ 1000000) :
    Calls Try.prog 12 #[.pointer (some ⟨g, 0, none⟩), .int .i64 k, dv] W (PutS Z w g room all next l k N bv W) := by
  obtain ⟨D, hD⟩ : ∃ D, (all.drop k).take N = D := ⟨_, rfl⟩
  have hDl : D.length = N := by rw [← hD, List.length_take, List.length_drop]; omega
  have hDp : D <+: all.drop k := hD ▸ List.take_prefix N _
  rw [hD] at hd
  have hnx := h.nx
  by_cases h7 : highF k next (room - l.length) D.length ≤ lowF k next
  · refine (put_none g k next room bv dv pv D l W h.hr h.ho.bat.low hd (by omega) (by omega) (by omega) (by omega) h5 h6 hll h7).mono ?_
    rintro e w' ⟨rfl, m, rfl⟩
    have hk : Keeps (fun _ => False) W (W.drewN m) := (Keeps.refl _ _).drewN m
    refine ⟨0, 0, L, bv, pv, rfl, by rw [List.take_zero, List.append_nil, Nat.add_zero]; exact h.keeps hk, .inl rfl, Nat.zero_le _, fun e1 e2 e3 _ => ?_, hk.mono (fun _ _ h => h.elim)⟩
    exfalso
    unfold highF lowF at h7
    rw [hDl] at h7
    split at h7 <;> split at h7 <;> omega
  · have h7' : lowF k next < highF k next (room - l.length) D.length := by omega
    have hlow : (next : Int) ≤ lowF k next ∧ (k : Int) ≤ lowF k next := by unfold lowF; split <;> omega
    have hhigh : highF k next (room - l.length) D.length ≤ (k : Int) + D.length := by unfold highF; split <;> omega
    obtain ⟨p, hp⟩ : ∃ p, partF k next (room - l.length) D = p := ⟨_, rfl⟩
    have hp1 : p.1 = lowF k next := by rw [← hp]; rfl
    have hpl : p.2 ≠ [] := by
      rw [← hp]
      unfold partF
      intro e
      have := congrArg List.length e
      simp only [List.length_take, List.length_drop, List.length_nil] at this
      omega
    have hpo : Of all next p := by
      refine ⟨by rw [hp1]; exact hlow.1, hpl, ?_⟩
      have := pre_sub hDp (lowF k next - (k : Int)).toNat ((highF k next (room - l.length) D.length - k).toNat - (lowF k next - (k : Int)).toNat) (by omega)
      rw [hp1, show (lowF k next).toNat = k + (lowF k next - (k : Int)).toNat by omega, ← hp]
      exact this
    have hLo : ∀ q ∈ L, Of all next q := fun q hq => (h.gd.of q hq).mono (by omega)
    obtain ⟨a, d, rest, hM⟩ := mergeF_some hpl hLo
    have hG := mergeF_good (x := next) (by omega) hpo hLo
    rw [hM] at hG
    have hGa := hG.of (a, d) List.mem_cons_self
    have hsep := List.pairwise_cons.1 hG.sep
    obtain ⟨front, R, hfr⟩ : ∃ front R, (a = (next : Int) ∧ front = d ∧ R = rest) ∨ (a ≠ (next : Int) ∧ front = [] ∧ R = (a, d) :: rest) := by
      by_cases e : a = next
      · exact ⟨d, rest, .inl ⟨e, rfl, rfl⟩⟩
      · exact ⟨[], (a, d) :: rest, .inr ⟨e, rfl, rfl⟩⟩
    have hfp : front <+: all.drop next := by
      rcases hfr with ⟨e1, e2, -⟩ | ⟨-, e2, -⟩
      · rw [e2]
        have := hGa.pre
        simp only [e1, Int.toNat_natCast] at this
        exact this
      · rw [e2]; exact List.nil_prefix
    have hfl := hfp.length_le
    rw [List.length_drop] at hfl
    have hft : (all.drop next).take front.length = front := (List.prefix_iff_eq_take.1 hfp).symm
    have hne : k ≤ next → front ≠ [] := fun hkn => by
      have hl1 : lowF k next = next := by unfold lowF; split <;> omega
      obtain ⟨d', r', hf⟩ := mergeF_first (p := p) (L := L) hpl (fun q hq => by rw [hp1, hl1]; have := (h.gd.of q hq).low; omega)
      rw [hM] at hf
      have ha : a = (next : Int) := by
        have := (List.cons.inj hf).1
        have := (Prod.mk.inj this).1
        rw [this, hp1, hl1]
      rcases hfr with ⟨-, e2, -⟩ | ⟨e1, -, -⟩
      · rw [e2]; exact hGa.ne
      · exact absurd ha e1
    have hRl : (∀ r ∈ R, Of all ((next : Int) + front.length + 1) r) ∧ R.Pairwise (fun a b => endF a < b.1) := by
      rcases hfr with ⟨e1, e2, e3⟩ | ⟨e1, e2, e3⟩
      · rw [e2, e3]
        refine ⟨fun r hr => ?_, hsep.2⟩
        have h1 := hG.of r (List.mem_cons_of_mem _ hr)
        have h2 := hsep.1 r hr
        refine ⟨?_, h1.ne, h1.pre⟩
        unfold endF at h2
        simp only at h2
        omega
      · rw [e2, e3]
        refine ⟨fun r hr => ?_, hG.sep⟩
        have h1 := hG.of r hr
        refine ⟨?_, h1.ne, h1.pre⟩
        have h3 := hGa.low
        simp only at h3
        rcases List.mem_cons.1 hr with rfl | hr
        · simp only [List.length_nil]; omega
        · have h2 := hsep.1 r hr
          unfold endF at h2
          simp only [List.length_nil] at h2 ⊢
          omega
    refine (put_any Z g w.heap.size k next room bv dv pv D l L a d rest front R W h.hr h.ho h.hk.size hZ h.hL hd (h.bd ha) (by have := h.ll; omega) (by omega) (by omega) (by omega) (by omega) h5 h6 hll h7' (hp.symm ▸ hM) hfr).mono ?_
    rintro e w' (⟨-, rfl, hk⟩ | ⟨hR64, rfl, bv', pv', hr', ho', hL', hk', hpl'⟩)
    · exact ⟨0, 7, L, bv, pv, rfl, by rw [List.take_zero, List.append_nil, Nat.add_zero]; exact h.keeps hk, .inr ⟨rfl, rfl⟩, Nat.zero_le _, fun _ _ _ e => by omega, hk.mono (fun _ _ h => h.elim)⟩
    · refine ⟨front.length, 0, R, bv', pv', rfl, ⟨by rw [Int.natCast_add]; exact hr', by rw [hft]; exact ho', hL', ⟨hRl.2, fun r hr => (hRl.1 r hr).mono (by omega)⟩, hR64, by omega, fun b hb e => ?_, h.gg, h.hk.from hk' (fun b hb => ?_)⟩, .inl rfl, by omega, fun e1 _ _ _ e => hne e1 (List.eq_nil_of_length_eq_zero e), hk'⟩
      · rcases hpl' with h1 | ⟨b', h1, h2⟩
        · exact h.zb b (h1 ▸ hb) e
        · rw [h1] at hb
          have : b' = b := Option.some.inj hb
          have := hZ b e
          omega
      · rcases hb with rfl | hb
        · exact h.gg
        · exact (h.ho.block b hb).1

theorem read_s (h : RecvS Z w g room all next l L bv pv W) (n : Int) (m : Nat) (hll : l.length ≤ 1000000) (hn0 : 0 ≤ n) (hm : (m : Int) = if (l.length : Int) < n then (l.length : Int) else n) :
    Calls Try.prog 14 #[.pointer (some ⟨g, 0, none⟩), .int .i64 n] W fun e w' => ∃ v bv', e = .returned (.tuple #[v, .int .i64 0]) ∧ BOwn w' W.heap.size v (l.take m) ∧ RecvS Z w g room all next (l.drop m) L bv' pv w' ∧ Keeps (fun b => b = g ∨ bv.ownBlock = some b) W w' := by
  refine (read_any g w.heap.size m room next n bv pv l W h.hr h.ho hll hn0 hm).mono ?_
  rintro e w' ⟨v, rfl, hv, hk, bv', hr', ho', hp'⟩
  refine ⟨v, bv', rfl, hv, ⟨hr', ho', (h.hL.keeps hk (fun b hb e => by rcases e with e | e; · exact hb.1 e
                                                                       · exact hb.2.1 e)).mono (fun b hb _ => ⟨hb.1, by rw [hp']; exact hb.2.1, hb.2.2⟩), h.gd, h.ll, h.nx, fun b hb => h.zb b (hp' ▸ hb), h.gg, h.hk.from hk (fun b hb => ?_)⟩, hk⟩
  rcases hb with rfl | hb
  · exact h.gg
  · exact (h.ho.block b hb).1
theorem room_s (h : RecvS Z w g room all next l L bv pv W) (h5 : 0 ≤ room) (h6 : room ≤ 65535) (hll : l.length ≤ 1000000) :
    Calls Try.prog 17 #[.pointer (some ⟨g, 0, none⟩)] W fun e w' => e = .returned (.int .i64 (room - l.length)) ∧ ∃ m, w' = W.drewN m := by
  obtain ⟨a, c, rfl, -, -⟩ := BOwn.slice h.ho
  exact room_any g _ pv room next l.length a c W h.hr rfl (by omega) (by omega) (by omega)
theorem next_s (h : RecvS Z w g room all next l L bv pv W) : Calls Try.prog 16 #[.pointer (some ⟨g, 0, none⟩)] W fun e w' => e = .returned (.int .i64 next) ∧ W = w' := next_any g room next bv pv W h.hr
end Go.Proofs.Ytiodmhcmciohnaa

/-! Words for a script of calls; few. -/
namespace Go.Proofs.Ytiodmhcmciohnaa
set_option linter.unusedVariables false
set_option linter.unusedSimpArgs false
open Go.RowKit

structure OpV where
  call : Int
  at' : Int
  n : Int
  data : List UInt8
structure OpFit (o : OpV) : Prop where
  c1 : -9223372036854775808 ≤ o.call
  c2 : o.call ≤ 9223372036854775807
  a1 : -9223372036854775808 ≤ o.at'
  a2 : o.at' ≤ 9223372036854775807
  n1 : -9223372036854775808 ≤ o.n
  n2 : o.n ≤ 9223372036854775807
  d : o.data.length ≤ 140737488355328
def ocells (q : OpV × Value) : List Value := [.int .i64 q.1.call, .int .i64 q.1.at', .int .i64 q.1.n, q.2]
def flatO (qs : List (OpV × Value)) : List Value := qs.flatMap ocells
theorem flatO_length : ∀ qs : List (OpV × Value), (flatO qs).length = qs.length * 4
  | [] => rfl
  | q :: qs => by
    have := flatO_length qs
    unfold flatO at *
    rw [List.flatMap_cons, List.length_append, this, List.length_cons]
    show 4 + _ = _
    omega
theorem flatO_get : ∀ (qs : List (OpV × Value)) (i : Nat) (q : OpV × Value) (k : Nat), qs[i]? = some q → k < 4 → (flatO qs)[i * 4 + k]? = (ocells q)[k]?
  | [], i, q, k, h, _ => by simp at h
  | q' :: qs, 0, q, k, h, hk => by
    obtain rfl : q' = q := by simpa using h
    unfold flatO
    rw [List.flatMap_cons, Nat.zero_mul, Nat.zero_add, List.getElem?_append_left (by show k < 4; exact hk)]
  | q' :: qs, i + 1, q, k, h, hk => by
    have := flatO_get qs i q k (by simpa using h) hk
    unfold flatO at *
    rw [List.flatMap_cons, List.getElem?_append_right (by show 4 ≤ _; omega)]
    show _[(i + 1) * 4 + k - 4]? = _
    rw [show (i + 1) * 4 + k - 4 = i * 4 + k by omega, this]
/-- v reads this script. -/
def ORd (w : World) (v : Value) (L : List OpV) : Prop :=
  ∃ qs : List (OpV × Value), qs.map (·.1) = L ∧ SAt w (· < w.heap.size) 4 v L.length (flatO qs) ∧ ∀ q ∈ qs, BRd w q.2 q.1.data ∧ OpFit q.1
theorem ORd.keeps {w w' : World} {v : Value} {L : List OpV} (h : ORd w v L) (hk : Keeps (fun _ => False) w w') : ORd w' v L := by
  obtain ⟨qs, h1, h2, h3⟩ := h
  exact ⟨qs, h1, (SAt.keeps h2 hk (fun _ _ h => h)).mono fun b hb => Nat.lt_of_lt_of_le hb hk.size, fun q hq => ⟨(h3 q hq).1.keeps hk, (h3 q hq).2⟩⟩
theorem ORd.slice {w : World} {v : Value} {L : List OpV} (h : ORd w v L) : ∃ a c, v = .slice a L.length c ∧ L.length ≤ c ∧ c ≤ maxLen := by
  obtain ⟨qs, h1, h2, h3⟩ := h
  exact SAt.slice h2
/-- A call of the script: its cells. -/
theorem ORd.at {w : World} {v : Value} {L : List OpV} (h : ORd w v L) (i : Nat) (hi : i < L.length) :
    ∃ b off c dv, v = .slice (some ⟨b, off, none⟩) L.length c ∧ b < w.heap.size ∧ BRd w dv L[i].data ∧ OpFit L[i] ∧ w.cell? ⟨b, off + i * 4, none⟩ = some (.int .i64 L[i].call) ∧ w.cell? ⟨b, off + i * 4 + 1, none⟩ = some (.int .i64 L[i].at') ∧
      w.cell? ⟨b, off + i * 4 + 2, none⟩ = some (.int .i64 L[i].n) ∧ w.cell? ⟨b, off + i * 4 + 3, none⟩ = some dv := by
  obtain ⟨qs, rfl, ⟨h1, a', c', e, h3, h4, h5⟩, h6⟩ := h
  rw [List.length_map] at hi h1
  rcases h5 with h5 | ⟨b, off, hb, rfl, hc⟩
  · rw [h5] at h1; simp at h1; omega
  · obtain ⟨q, hq⟩ : ∃ q, qs[i]? = some q := ⟨_, List.getElem?_eq_getElem hi⟩
    have hg : (qs.map (·.1))[i]'(by simpa using hi) = q.1 := by
      rw [List.getElem_map]
      rw [List.getElem?_eq_getElem hi] at hq
      rw [Option.some.inj hq]
    rw [hg]
    have hm := h6 q (List.mem_of_getElem? hq)
    refine ⟨b, off, c', q.2, e, hb, hm.1, hm.2, ?_, ?_, ?_, ?_⟩
    · have hf := flatO_get qs i q 0 hq (by omega)
      rw [Nat.add_zero] at hf
      exact hc _ _ hf
    · have hf := flatO_get qs i q 1 hq (by omega)
      rw [Nat.add_assoc]
      exact hc _ _ hf
    · have hf := flatO_get qs i q 2 hq (by omega)
      rw [Nat.add_assoc]
      exact hc _ _ hf
    · have hf := flatO_get qs i q 3 hq (by omega)
      rw [Nat.add_assoc]
      exact hc _ _ hf

def sumO (L : List OpV) : Nat := (L.map (·.data.length)).sum
def fewO (L : List OpV) : Bool := decide (L.length ≤ 60) && decide (sumO L ≤ 3000)
theorem sumO_succ (L : List OpV) (i : Nat) (hi : i < L.length) : sumO (L.take (i + 1)) = sumO (L.take i) + L[i].data.length := by
  unfold sumO
  rw [List.take_succ_eq_append_getElem hi, List.map_append, List.sum_append]
  rfl
theorem sumO_le (L : List OpV) (h : ∀ o ∈ L, o.data.length ≤ 140737488355328) : sumO L ≤ L.length * 140737488355328 := by
  induction L with
  | nil => simp [sumO]
  | cons o r ih =>
    have h1 := ih (fun x hx => h x (List.mem_cons_of_mem _ hx))
    have h2 := h o List.mem_cons_self
    unfold sumO at *
    simp only [List.map_cons, List.sum_cons, List.length_cons]
    omega
theorem ORd.fit {w : World} {v : Value} {L : List OpV} (h : ORd w v L) : ∀ o ∈ L, OpFit o := by
  obtain ⟨qs, rfl, -, h6⟩ := h
  intro o ho
  obtain ⟨q, hq, rfl⟩ := List.mem_map.1 ho
  exact (h6 q hq).2

set_option maxRecDepth 100000 in
set_option maxHeartbeats 1000000 in
theorem few_any (v : Value) (L : List OpV) (w : World) (h : ORd w v L) :
    Calls Try.prog 8 #[v] w fun e w' => e = .returned (.bool (fewO L)) ∧ w = w' := by
  obtain ⟨va, vc, rfl, hvc, hvm⟩ := h.slice
  simp only [maxLen] at hvm
  by_cases h60 : (60 : Int) < (L.length : Int)
  · have hf : fewO L = false := by unfold fewO; rw [Bool.and_eq_false_iff]; left; simp; omega
    rw [hf]
    go_enter Try.func8, Try.ntmps8
    go_wp2
    go_ret
    exact ⟨rfl, rfl⟩
  · have hfit := h.fit
    obtain ⟨F, hF⟩ : ∃ F, fewO L = F := ⟨_, rfl⟩
    rw [hF]
    have HF := Lib.hid hF
    have HH := Lib.hid h
    have HFIT := Lib.hid hfit
    clear hF h hfit
    go_enter Try.func8, Try.ntmps8
    go_wp2
    go_loopw [3, 4] (fun u3 u4 wr => ∃ i : Nat, i ≤ L.length ∧ u4 = .int .i64 i ∧ u3 = .int .i64 (sumO (L.take i)) ∧ w = wr) (fun _ u4 _ => L.length - (intOf u4).toNat)
    case atStart => exact ⟨0, by omega, rfl, by simp [sumO], rfl⟩
    case round =>
      obtain ⟨i, hi, rfl, rfl, rfl⟩ := hrel
      by_cases hlt : i < L.length
      · obtain ⟨b, off, c, dv, he, -, hd, hft, -, -, -, k3⟩ := ORd.at HH.out i hlt
        obtain ⟨rfl, -, rfl⟩ : va = some ⟨b, off, none⟩ ∧ True ∧ vc = c := by
          simp only [Value.slice.injEq] at he
          exact ⟨he.1, trivial, he.2.2⟩
        obtain ⟨da, dc, rfl, hdc, hdm⟩ := BAt.slice hd
        have hs := sumO_succ L i hlt
        have hb1 := sumO_le (L.take i) (fun o ho => (HFIT.out o (List.mem_of_mem_take ho)).d)
        rw [List.length_take] at hb1
        have hfd := hft.d
        obtain ⟨S, hS⟩ : ∃ S, sumO (L.take i) = S := ⟨_, rfl⟩
        rw [hS] at hs hb1 ⊢
        obtain ⟨D, hD⟩ : ∃ D, L[i].data.length = D := ⟨_, rfl⟩
        rw [hD] at k3 hs hfd
        have hb2 : S ≤ 60 * 140737488355328 := Nat.le_trans hb1 (Nat.mul_le_mul_right _ (by omega))
        have q1 := i64_fit ((S : Int) + (D : Int)) (by omega) (by omega)
        have HS := Lib.hid hs
        clear hs hb1 he hD hS hft hd
        go_wp2
        go_roundw
        case rel => exact ⟨i + 1, by omega, by go_num, by rw [HS.out, Int.natCast_add]; exact ⟨rfl, trivial⟩⟩
        case measure => simp [intOf]; omega
      · obtain rfl : i = L.length := by omega
        rw [List.take_length]
        have hF := HF.out
        unfold fewO at hF
        have hFd : decide ((sumO L : Int) ≤ 3000) = F := by
          rw [← hF, show decide (L.length ≤ 60) = true from decide_eq_true (by omega), Bool.true_and]
          exact decide_eq_decide.2 (by omega)
        obtain ⟨S, hS⟩ : ∃ S, sumO L = S := ⟨_, rfl⟩
        rw [hS] at hFd ⊢
        clear hF hS
        go_wp2
        go_ret
        exact ⟨by rw [← hFd]; rfl, rfl⟩
end Go.Proofs.Ytiodmhcmciohnaa

/-! What stands while a script of a receiver's calls runs, the program's and the reference's beside it. -/
namespace Go.Proofs.Ytiodmhcmciohnaa
set_option linter.unusedVariables false
set_option linter.unusedSimpArgs false
open Go.RowKit

theorem run_exists (f : Int → Option UInt8) : ∀ (n : Nat) (x : Int), (∀ t, x + n ≤ t → f t = none) → ∃ D : List UInt8, (∀ j (hj : j < D.length), f (x + (j : Int)) = some D[j]) ∧ f (x + (D.length : Int)) = none
  | 0, x, h => ⟨[], fun j hj => absurd hj (Nat.not_lt_zero _), h _ (by simp)⟩
  | n + 1, x, h => by
    cases hx : f x with
    | none => exact ⟨[], fun j hj => absurd hj (Nat.not_lt_zero _), by simpa using hx⟩
    | some b =>
      obtain ⟨D, h1, h2⟩ := run_exists f n (x + 1) (fun t ht => h t (by omega))
      refine ⟨b :: D, fun j hj => ?_, ?_⟩
      · cases j with
        | zero => simpa using hx
        | succ j =>
          have := h1 j (by simpa using hj)
          rw [show x + ((j + 1 : Nat) : Int) = x + 1 + (j : Int) by omega, this]
          rfl
      · rw [List.length_cons, show x + ((D.length + 1 : Nat) : Int) = x + 1 + (D.length : Int) by omega]
        exact h2

structure GetI (Z : Nat → Prop) (w : World) (g x : Nat) (room : Int) (s next taken : Nat) (all l : List UInt8) (L : List Pt) (Q : List PB) (bv pv allv atv bsv : Value) (W : World) : Prop where
  hr : RowAt W g #[.int .i64 room, .int .i64 next, bv, pv] 66
  ho : BOwn W w.heap.size bv l
  hL : TRd W (OffG g bv (fun b => b = x ∨ Z b)) pv L
  hx : RowAt W x #[.int .i64 room, allv, .int .i64 taken, atv, bsv] 33
  ha : BOwn W w.heap.size allv all
  hz : ZOwn W w.heap.size atv (Q.map (·.1))
  hb : BOwn W w.heap.size bsv (Q.map (·.2))
  b25 : Both25 next ((next : Int) + (room - l.length)) L Q
  al : all.length = next
  eq : l = all.drop taken
  tl : taken ≤ next
  ll : L.length ≤ 64
  lr : (l.length : Int) ≤ room
  ql : Q.length ≤ s
  sm : next ≤ s
  ap1 : ∀ b, bv.ownBlock = some b → allv.ownBlock ≠ some b
  ap2 : ∀ b, bv.ownBlock = some b → bsv.ownBlock ≠ some b
  gg : w.heap.size ≤ g
  gx : w.heap.size ≤ x
  hk : Keeps (fun _ => False) w W
  zb : ∀ b, Z b → b < W.heap.size ∧ bv.ownBlock ≠ some b ∧ allv.ownBlock ≠ some b ∧ atv.ownBlock ≠ some b ∧ bsv.ownBlock ≠ some b ∧ b ≠ g ∧ b ≠ x ∧ w.heap.size ≤ b

variable {Z : Nat → Prop} {w W : World} {g x s next taken : Nat} {room : Int} {all l : List UInt8} {L : List Pt} {Q : List PB} {bv pv allv atv bsv : Value}

theorem GetI.keeps {W' : World} (h : GetI Z w g x room s next taken all l L Q bv pv allv atv bsv W) (hk : Keeps (fun _ => False) W W') : GetI Z w g x room s next taken all l L Q bv pv allv atv bsv W' :=
  ⟨h.hr.keeps hk (fun h => h), h.ho.keeps hk (fun _ _ h => h), h.hL.keeps hk (fun _ _ h => h), h.hx.keeps hk (fun h => h), h.ha.keeps hk (fun _ _ h => h), h.hz.keeps hk (fun _ _ h => h), h.hb.keeps hk (fun _ _ h => h), h.b25, h.al, h.eq, h.tl, h.ll, h.lr, h.ql, h.sm, h.ap1, h.ap2, h.gg, h.gx, h.hk.trans hk (fun _ _ h => h),
    fun b hb => ⟨Nat.lt_of_lt_of_le (h.zb b hb).1 hk.size, (h.zb b hb).2⟩⟩
theorem GetI.more (h : GetI Z w g x room s next taken all l L Q bv pv allv atv bsv W) (n : Nat) : GetI Z w g x room (s + n) next taken all l L Q bv pv allv atv bsv W :=
  { h with ql := Nat.le_trans h.ql (Nat.le_add_right _ _), sm := Nat.le_trans h.sm (Nat.le_add_right _ _) }
theorem GetI.start {g x : Nat} {room : Int} {W : World} (hr : RowAt W g #[.int .i64 room, .int .i64 0, .slice none 0 0, .slice none 0 0] 66) (hx : RowAt W x #[.int .i64 room, .slice none 0 0, .int .i64 0, .slice none 0 0, .slice none 0 0] 33) (h0 : 0 ≤ room)
    (hgg : w.heap.size ≤ g) (hgx : w.heap.size ≤ x) (hk : Keeps (fun _ => False) w W) : GetI (fun _ => False) w g x room 0 0 0 [] [] [] [] (.slice none 0 0) (.slice none 0 0) (.slice none 0 0) (.slice none 0 0) (.slice none 0 0) W :=
  ⟨hr, BOwn.nil _ _, TRd.nil _ _, hx, BOwn.nil _ _, ZOwn.nil _ _, BOwn.nil _ _, ⟨⟨.nil, fun _ h => (by cases h), fun _ h => (by cases h)⟩, fun _ h => (by cases h), fun _ => rfl⟩, rfl, rfl, Nat.le_refl _, Nat.zero_le _, h0, Nat.le_refl _, Nat.le_refl _,
    fun b e => by simp [Value.ownBlock] at e, fun b e => by simp [Value.ownBlock] at e, hgg, hgx, hk, fun _ h => h.elim⟩
/-- Bytes of its own are made beside it. -/
theorem GetI.opened {own : Value} {data : List UInt8} {W2 : World} (h : GetI (fun _ => False) w g x room s next taken all l L Q bv pv allv atv bsv W) (hk : Keeps (fun _ => False) W W2) (hw : BOwn W2 W.heap.size own data) :
    GetI (fun b => own.ownBlock = some b) w g x room s next taken all l L Q bv pv allv atv bsv W2 := by
  have h2 := h.keeps hk
  have hL : TRd W (fun b => OffG g bv (fun b => b = x ∨ False) b ∧ b < W.heap.size) pv L := h.hL.mono fun b hb hb' => ⟨hb, hb'⟩
  refine { h2 with hL := (hL.keeps hk (fun _ _ h => h)).mono fun b hb _ => ⟨hb.1.1, hb.1.2.1, fun e => ?_⟩, zb := fun b hb => ?_ }
  · rcases e with e | e
    · exact hb.1.2.2 (.inl e)
    · have := (hw.block b e).1
      have := hb.2
      omega
  · obtain ⟨h1, h3⟩ := hw.block b hb
    have hs := h.hk.size
    refine ⟨h3, fun e => ?_, fun e => ?_, fun e => ?_, fun e => ?_, ?_, ?_, by omega⟩
    · have := (h.ho.block b e).2; omega
    · have := (h.ha.block b e).2; omega
    · have := (h.hz.block b e).2; omega
    · have := (h.hb.block b e).2; omega
    · have := h.hr.lt; omega
    · have := h.hx.lt; omega
/-- Those are written. -/
theorem GetI.closed {W' : World} (h : GetI Z w g x room s next taken all l L Q bv pv allv atv bsv W) (hk : Keeps Z W W') : GetI (fun _ => False) w g x room s next taken all l L Q bv pv allv atv bsv W' := by
  refine ⟨h.hr.keeps hk (fun e => (h.zb _ e).2.2.2.2.2.1 rfl), h.ho.keeps hk (fun b hb e => (h.zb _ e).2.1 hb), ?_, h.hx.keeps hk (fun e => (h.zb _ e).2.2.2.2.2.2.1 rfl), h.ha.keeps hk (fun b hb e => (h.zb _ e).2.2.1 hb), h.hz.keeps hk (fun b hb e => (h.zb _ e).2.2.2.1 hb), h.hb.keeps hk (fun b hb e => (h.zb _ e).2.2.2.2.1 hb),
    h.b25, h.al, h.eq, h.tl, h.ll, h.lr, h.ql, h.sm, h.ap1, h.ap2, h.gg, h.gx, h.hk.from hk (fun b hb => (h.zb b hb).2.2.2.2.2.2.2), fun _ h => h.elim⟩
  exact (h.hL.keeps hk (fun b hb e => hb.2.2 (.inr e))).mono fun b hb _ => ⟨hb.1, hb.2.1, fun e => hb.2.2 (e.imp id False.elim)⟩

/-- What a Put of both receivers comes to. -/
theorem GetI.plain (h : GetI Z w g x room s next taken all l L Q bv pv allv atv bsv W) (at' : Int) (data : List UInt8) (h5 : 0 ≤ room) :
    ∃ (D : List UInt8) (R : List Pt), (∀ (j : Nat) (hj : j < D.length), hasQ (addQ next ((next : Int) + (room - l.length)) Q at' data) ((next : Int) + (j : Int)) = some D[j]) ∧ hasQ (addQ next ((next : Int) + (room - l.length)) Q at' data) ((next : Int) + (D.length : Int)) = none ∧
      Both25 (next + D.length) ((next : Int) + (room - l.length)) R ((addQ next ((next : Int) + (room - l.length)) Q at' data).filter (fun p => decide (((next : Int) + (D.length : Int)) ≤ p.1))) ∧
      scanF (hasQ (addQ next ((next : Int) + (room - l.length)) Q at' data)) (room.toNat + 1) ((next : Int) + (D.length : Int)) [] = R ∧ (D.length : Int) ≤ room - l.length ∧
      ((highF at' next (room - l.length) data.length ≤ lowF at' next ∧ D = [] ∧ R = L) ∨ (lowF at' next < highF at' next (room - l.length) data.length ∧ ∃ a d rest, mergeF L (partF at' next (room - l.length) data) = (a, d) :: rest ∧ ((a = next ∧ D = d ∧ R = rest) ∨ (a ≠ next ∧ D = [] ∧ R = (a, d) :: rest)))) := by
  have hlr := h.lr
  obtain ⟨D, hD, hD'⟩ := run_exists (hasQ (addQ next ((next : Int) + (room - l.length)) Q at' data)) (room - l.length).toNat next (fun t ht => addQ_lim h.b25 at' data t (by omega))
  have hDr : (D.length : Int) ≤ room - l.length := by
    rcases Nat.eq_zero_or_pos D.length with h0 | h0
    · omega
    · have h1 := hD (D.length - 1) (by omega)
      rcases Int.lt_or_le ((next : Int) + ((D.length - 1 : Nat) : Int)) ((next : Int) + (room - l.length)) with h2 | h2
      · omega
      · rw [addQ_lim h.b25 at' data _ h2] at h1
        cases h1
  by_cases hw : highF at' next (room - l.length) data.length ≤ lowF at' next
  · obtain ⟨h0, h1, h2⟩ := both_none h.b25 (room.toNat + 1) (by omega) at' data hw hD hD'
    subst h0
    exact ⟨[], L, hD, hD', h1, h2, hDr, .inl ⟨hw, rfl, rfl⟩⟩
  · have hw' : lowF at' next < highF at' next (room - l.length) data.length := by omega
    obtain ⟨a, d, rest, R, h1, h2, h3, h4⟩ := both_put h.b25 (room.toNat + 1) (by omega) at' data hw' hD hD'
    exact ⟨D, R, hD, hD', h3, h4, hDr, .inr ⟨hw', a, d, rest, h1, h2⟩⟩

theorem put_g (h : GetI Z w g x room s next taken all l L Q bv pv allv atv bsv W) (at' : Int) (dv : Value) (data D : List UInt8) (R : List Pt) (hd : BRd W dv data) (h1 : 0 ≤ at') (h2 : at' + data.length ≤ 1000000000) (h4 : s ≤ 100000) (h5 : 0 ≤ room) (h6 : room ≤ 65535)
    (hc : (highF at' next (room - l.length) data.length ≤ lowF at' next ∧ D = [] ∧ R = L) ∨ (lowF at' next < highF at' next (room - l.length) data.length ∧ ∃ a d rest, mergeF L (partF at' next (room - l.length) data) = (a, d) :: rest ∧ ((a = next ∧ D = d ∧ R = rest) ∨ (a ≠ next ∧ D = [] ∧ R = (a, d) :: rest)))) :
    Calls Try.prog 12 #[.pointer (some ⟨g, 0, none⟩), .int .i64 at', dv] W (Put1R (fun b => b = x ∨ Z b) g w.heap.size room next D l R bv W) := by
  have hsm := h.sm
  have hlr := h.lr
  have hbd : ∀ r ∈ L, Bd r := fun r hr => by
    have h7 := h.b25.sep.low r hr
    have h8 := h.b25.ends r hr
    unfold Bd
    omega
  rcases hc with ⟨hw, rfl, rfl⟩ | ⟨hw, a, d, rest, hM, hfr⟩
  · refine (put_none g at' next room bv dv pv data l W h.hr h.ho.bat.low hd h1 h2 (by omega) (by omega) h5 h6 (by omega) hw).mono ?_
    rintro e w' ⟨rfl, m, rfl⟩
    have hk : Keeps (fun _ => False) W (W.drewN m) := (Keeps.refl _ _).drewN m
    exact .inr ⟨h.ll, rfl, bv, pv, by simpa using h.hr.drewN m, by rw [List.append_nil]; exact h.ho.keeps hk (fun _ _ h => h), h.hL.keeps hk (fun _ _ h => h), hk.mono (fun _ _ h => h.elim), .inl rfl⟩
  · exact put_any (fun b => b = x ∨ Z b) g w.heap.size at' next room bv dv pv data l L a d rest D R W h.hr h.ho h.hk.size (fun b hb => by
      rcases hb with rfl | hb
      · exact h.hx.lt
      · exact (h.zb b hb).1) h.hL hd hbd (by have := h.ll; omega) h1 h2 (by omega) (by omega) h5 h6 (by omega) hw hM hfr

theorem rput_g (h : GetI Z w g x room s next taken all l L Q bv pv allv atv bsv W) {W4 : World} (hk : Keeps (fun b => b = g ∨ bv.ownBlock = some b) W W4) (at' : Int) (dv : Value) (data : List UInt8) (hd : BRd W4 dv data) (h1 : 0 ≤ at') (h2 : at' + data.length ≤ 1000000000) (h4 : s + data.length ≤ 100000) (h5 : 0 ≤ room) (h6 : room ≤ 65535) :
    Calls Try.prog 13 #[.pointer (some ⟨x, 0, none⟩), .int .i64 at', dv] W4 (RPut x room allv taken all (addQ next ((next : Int) + (room - l.length)) Q at' data) W4) := by
  have hsm := h.sm
  have hal := h.al
  have hll : (l.length : Int) = (next : Int) - (taken : Int) := by have h7 := h.eq; have h8 := h.tl; rw [h7, List.length_drop]; omega
  have hx4 := h.hx.keeps hk (fun e => by
    rcases e with e | e
    · exact h.hr.neq h.hx (by decide) e.symm
    · exact h.ho.apart h.hx (by decide) e)
  have ha4 := h.ha.keeps hk (fun b hb e => by
    rcases e with rfl | e
    · exact h.ha.apart h.hr (by decide) hb
    · exact h.ap1 b e hb)
  have hz4 := h.hz.keeps hk (fun b hb e => by
    rcases e with rfl | e
    · exact h.hz.apart h.hr (by decide) hb
    · exact h.hz.apartB h.ho b hb e)
  have hb4 := h.hb.keeps hk (fun b hb e => by
    rcases e with rfl | e
    · exact h.hb.apart h.hr (by decide) hb
    · exact h.ap2 b e hb)
  have hlim := addQ_lim h.b25 at' data
  have := rput_any x room at' allv dv taken atv bsv all data Q W4 ⟨hx4, ha4.bat.low, hz4.bat.low, hb4.bat.low⟩ hd h1 h2 h5 h6 (by omega) (by rw [hal]; exact h.tl) (by have := h.ql; omega) (by omega) room.toNat (by omega) (fun t ht => by
    rw [hal, ← hll]
    exact hlim t (by omega))
  rw [hal, ← hll] at this
  exact this
/-- Both have put. -/
theorem GetI.putted (h : GetI Z w g x room s next taken all l L Q bv pv allv atv bsv W) {data D : List UInt8} {R : List Pt} {at' : Int} {W4 W5 : World} {e4 e5 : Ending}
    (hD : ∀ (j : Nat) (hj : j < D.length), hasQ (addQ next ((next : Int) + (room - l.length)) Q at' data) ((next : Int) + (j : Int)) = some D[j]) (hD' : hasQ (addQ next ((next : Int) + (room - l.length)) Q at' data) ((next : Int) + (D.length : Int)) = none)
    (hb25 : Both25 (next + D.length) ((next : Int) + (room - l.length)) R ((addQ next ((next : Int) + (room - l.length)) Q at' data).filter (fun p => decide (((next : Int) + (D.length : Int)) ≤ p.1))))
    (hsc : scanF (hasQ (addQ next ((next : Int) + (room - l.length)) Q at' data)) (room.toNat + 1) ((next : Int) + (D.length : Int)) [] = R) (hDr : (D.length : Int) ≤ room - l.length) (hDl : D.length ≤ 300)
    (h4 : Put1R (fun b => b = x ∨ Z b) g w.heap.size room next D l R bv W e4 W4) (h5 : RPut x room allv taken all (addQ next ((next : Int) + (room - l.length)) Q at' data) W4 e5 W5) :
    ∃ (n : Nat) (f : Int) (next' : Nat) (all' l' : List UInt8) (L' : List Pt) (Q' : List PB) (bv' pv' allv' atv' bsv' : Value), e4 = .returned (.tuple #[.int .i64 n, .int .i64 f]) ∧ e5 = .returned (.tuple #[.int .i64 n, .int .i64 f]) ∧
      GetI Z w g x room (s + (data.length + 300)) next' taken all' l' L' Q' bv' pv' allv' atv' bsv' W5 ∧ Keeps (fun b => b = x ∨ b = g ∨ bv.ownBlock = some b) W W5 := by
  obtain ⟨D2, hE, hE', h6⟩ := h5
  rw [h.al] at hE hE' h6
  obtain rfl : D2 = D := run_unique hE hE' hD hD'
  rw [hsc] at h6
  rcases h4 with ⟨r1, rfl, hk4⟩ | ⟨r1, rfl, bv', pv', hr4, ho4, hL4, hk4, hp4⟩
  · rcases h6 with ⟨-, rfl, hk5⟩ | ⟨r2, -⟩
    · exact ⟨0, 7, _, _, _, _, _, _, _, _, _, _, rfl, rfl, ((h.keeps hk4).keeps hk5).more _, (hk4.trans hk5 (fun _ _ h => h)).mono (fun _ _ h => h.elim)⟩
    · omega
  · rcases h6 with ⟨r2, -⟩ | ⟨-, rfl, allv', atv', bsv', hx5, ha5, hz5, hb5, hk5⟩
    · omega
    refine ⟨D2.length, 0, next + D2.length, all ++ D2, l ++ D2, R, (addQ next ((next : Int) + (room - l.length)) Q at' data).filter (fun p => decide (((next : Int) + (D2.length : Int)) ≤ p.1)), bv', pv', allv', atv', bsv', rfl, rfl, ?_, (hk4.mono (fun b _ hb => .inr hb)).trans hk5 (fun _ _ e => .inl e)⟩
    have hgx : g ≠ x := h.hr.neq h.hx (by decide)
    have hbx : bv.ownBlock ≠ some x := h.ho.apart h.hx (by decide)
    have hlen : l.length + taken = next := by have h7 := h.eq; have h8 := h.tl; have h9 := h.al; rw [h7, List.length_drop]; omega
    have hx4 := h.hx.keeps hk4 (fun e => by
      rcases e with e | e
      · exact hgx e.symm
      · exact hbx e)
    have ha4 := h.ha.keeps hk4 (fun b hb e => by
      rcases e with rfl | e
      · exact h.ha.apart h.hr (by decide) hb
      · exact h.ap1 b e hb)
    have hs4 := hk4.size
    have hs0 := h.hk.size
    have hs5 := hk5.size
    have hk04 : Keeps (fun _ => False) w W4 := h.hk.from hk4 (fun b hb => by
      rcases hb with rfl | hb
      · exact h.gg
      · exact (h.ho.block b hb).1)
    have hb4x : bv'.ownBlock ≠ some x := ho4.apart hx4 (by decide)
    have hlt4 : ∀ b, bv'.ownBlock = some b → b < W4.heap.size := fun b hb => (ho4.block b hb).2
    have hba : ∀ b, bv'.ownBlock = some b → allv'.ownBlock ≠ some b := fun b hb e => by
      rcases ha5 with ha5 | ⟨e1, -⟩
      · have h1 := (ha5.block b e).1
        have h2 := hlt4 b hb
        omega
      · rw [e1] at e
        rcases hp4 with h1 | ⟨b', h1, h2⟩
        · exact h.ap1 b (h1 ▸ hb) e
        · obtain rfl : b' = b := Option.some.inj (h1.symm.trans hb)
          have := (h.ha.block b' e).2
          omega
    have hZl : ∀ b, Z b → b < W.heap.size := fun b hb => (h.zb b hb).1
    refine ⟨by rw [Int.natCast_add]; exact hr4.keeps hk5 (fun e => hgx e), ho4.keeps hk5 (fun b hb e => hb4x (e ▸ hb)), hL4.keeps hk5 (fun b hb e => hb.2.2 (.inl e)), hx5, ?_, hz5.mono (by omega), hb5.mono (by omega), ?_, ?_, ?_, by have := h.tl; omega, r1, ?_, ?_, ?_, hba, ?_, h.gg, h.gx, hk04.from hk5 (fun b e => e ▸ h.gx), fun b hb => ?_⟩
    · rcases ha5 with ha5 | ⟨e1, e2⟩
      · exact ha5.mono (by omega)
      · rw [e1, e2, List.append_nil]
        exact ha4.keeps hk5 (fun b hb e => by subst e; exact h.ha.apart h.hx (by decide) hb)
    · have := hb25
      rw [show ((next + D2.length : Nat) : Int) + (room - (l ++ D2).length) = (next : Int) + (room - l.length) by rw [List.length_append]; omega]
      exact this
    · rw [List.length_append, h.al]
    · rw [List.drop_append_of_le_length (by rw [h.al]; exact h.tl), ← h.eq]
    · rw [List.length_append]; omega
    · have h1 := addQ_len next ((next : Int) + (room - l.length)) data Q at'
      have h2 := List.length_filter_le (fun p => decide (((next : Int) + (D2.length : Int)) ≤ p.1)) (addQ next ((next : Int) + (room - l.length)) Q at' data)
      have := h.ql
      omega
    · have := h.sm; omega
    · intro b hb e
      have h1 := (hb5.block b e).1
      have h2 := hlt4 b hb
      omega
    · obtain ⟨z1, z2, z3, z4, z5, z6, z7, z8⟩ := h.zb b hb
      refine ⟨by omega, fun e => ?_, fun e => ?_, fun e => ?_, fun e => ?_, z6, z7, z8⟩
      · rcases hp4 with h1 | ⟨b', h1, h2⟩
        · exact z2 (h1 ▸ e)
        · obtain rfl : b' = b := Option.some.inj (h1.symm.trans e)
          omega
      · rcases ha5 with ha5 | ⟨e1, -⟩
        · have h1 := (ha5.block b e).1
          omega
        · rw [e1] at e
          exact z3 e
      · have h1 := (hz5.block b e).1
        omega
      · have h1 := (hb5.block b e).1
        omega
/-- Both have read. -/
theorem GetI.took (h : GetI Z w g x room s next taken all l L Q bv pv allv atv bsv W) {m : Nat} {bv' : Value} {W4 W5 : World} (hm : m ≤ l.length)
    (hr4 : RowAt W4 g #[.int .i64 room, .int .i64 next, bv', pv] 66) (ho4 : BOwn W4 w.heap.size bv' (l.drop m)) (hp4 : bv'.ownBlock = bv.ownBlock) (hk4 : Keeps (fun b => b = g ∨ bv.ownBlock = some b) W W4)
    (hk5 : Keeps (· = x) W4 W5) (hx5 : RowAt W5 x #[.int .i64 room, allv, .int .i64 ((taken + m : Nat) : Int), atv, bsv] 33) :
    GetI Z w g x room s next (taken + m) all (l.drop m) L Q bv' pv allv atv bsv W5 := by
  have hgx : g ≠ x := h.hr.neq h.hx (by decide)
  have hbx : bv.ownBlock ≠ some x := h.ho.apart h.hx (by decide)
  have hlen : l.length + taken = next := by have h7 := h.eq; have h8 := h.tl; have h9 := h.al; rw [h7, List.length_drop]; omega
  have ha4 := h.ha.keeps hk4 (fun b hb e => by
    rcases e with rfl | e
    · exact h.ha.apart h.hr (by decide) hb
    · exact h.ap1 b e hb)
  have hz4 := h.hz.keeps hk4 (fun b hb e => by
    rcases e with rfl | e
    · exact h.hz.apart h.hr (by decide) hb
    · exact h.hz.apartB h.ho b hb e)
  have hb4 := h.hb.keeps hk4 (fun b hb e => by
    rcases e with rfl | e
    · exact h.hb.apart h.hr (by decide) hb
    · exact h.ap2 b e hb)
  have hL4 : TRd W4 (OffG g bv (fun b => b = x ∨ Z b)) pv L := h.hL.keeps hk4 (fun b hb e => by
    rcases e with e | e
    · exact hb.1 e
    · exact hb.2.1 e)
  have hs4 := hk4.size
  have hs5 := hk5.size
  have hk04 : Keeps (fun _ => False) w W4 := h.hk.from hk4 (fun b hb => by
    rcases hb with rfl | hb
    · exact h.gg
    · exact (h.ho.block b hb).1)
  refine ⟨hr4.keeps hk5 hgx, ho4.keeps hk5 (fun b hb e => by subst e; rw [hp4] at hb; exact hbx hb), (hL4.keeps hk5 (fun b hb e => hb.2.2 (.inl e))).mono fun b hb _ => ⟨hb.1, hp4 ▸ hb.2.1, hb.2.2⟩, hx5, ha4.keeps hk5 (fun b hb e => by subst e; exact h.ha.apart h.hx (by decide) hb), hz4.keeps hk5 (fun b hb e => by subst e; exact h.hz.apart h.hx (by decide) hb), hb4.keeps hk5 (fun b hb e => by subst e; exact h.hb.apart h.hx (by decide) hb),
    ?_, h.al, by rw [h.eq, List.drop_drop], by omega, h.ll, by rw [List.length_drop]; have := h.lr; omega, h.ql, h.sm, fun b hb => h.ap1 b (hp4 ▸ hb), fun b hb => h.ap2 b (hp4 ▸ hb), h.gg, h.gx, hk04.from hk5 (fun b e => e ▸ h.gx), fun b hb => ?_⟩
  · refine ⟨h.b25.sep, fun r hr => ?_, h.b25.eq⟩
    have := h.b25.ends r hr
    rw [List.length_drop]
    omega
  · obtain ⟨z1, z2, z3, z4, z5, z6, z7, z8⟩ := h.zb b hb
    exact ⟨by omega, hp4 ▸ z2, z3, z4, z5, z6, z7, z8⟩
end Go.Proofs.Ytiodmhcmciohnaa

/-! A part of a row of the call's own gets bytes of its own. -/
namespace Go.Proofs.Ytiodmhcmciohnaa
set_option linter.unusedVariables false
set_option linter.unusedSimpArgs false
open Go.RowKit

theorem TOwn.setAt {w w' : World} {base : Nat} {ok : Nat → Prop} {g off n c : Nat} {qs : List (Pt × Value)} {dv' : Value} (h : TOwn w base ok (.slice (some ⟨g, off, none⟩) n c) qs) (i : Nat) (hi : i < qs.length) (hk : Keeps (fun _ => False) w w') (h1' : dv'.oneCell' = true) (hd' : BAt w' (fun b => ok b ∧ g ≠ b) dv' qs[i].1.2) :
    TOwn (w'.setCell ⟨g, off + i * 2 + 1, none⟩ dv') base ok (.slice (some ⟨g, off, none⟩) n c) (qs.set i (qs[i].1, dv')) := by
  obtain ⟨⟨h1, h0, h2⟩, hd⟩ := h
  rcases h2 with ⟨e, -, -⟩ | ⟨g', off', c', cs, hb, e, h3, h4, hr, h5, h6⟩
  · simp at e
  · simp only [Value.slice.injEq, Option.some.injEq, Addr.mk.injEq, and_true] at e
    obtain ⟨⟨rfl, rfl⟩, rfl, rfl⟩ := e
    have hks : Keeps (· = g) w' (w'.setCell ⟨g, off + i * 2 + 1, none⟩ dv') := (Keeps.refl _ _).setCell _ _ (.inl rfl)
    have hqi : qs[i]? = some qs[i] := List.getElem?_eq_getElem hi
    have hsi : (qs.set i (qs[i].1, dv'))[i]? = some (qs[i].1, dv') := by rw [List.getElem?_set_self hi]
    have hcells : ∀ j, j < qs.length * 2 → (cs.setIfInBounds (off + i * 2 + 1) dv')[off + j]? = (flatT (qs.set i (qs[i].1, dv')))[j]? := fun j hj => by
      by_cases e : j = i * 2 + 1
      · subst e
        rw [← Nat.add_assoc, Array.getElem?_setIfInBounds_self_of_lt (by omega), flatT_get _ i _ 1 hsi (by omega)]
        rfl
      · rw [Array.getElem?_setIfInBounds_ne (by omega), h6 j hj]
        have hk2 : j / 2 < qs.length := by omega
        have hq2 : qs[j / 2]? = some qs[j / 2] := List.getElem?_eq_getElem hk2
        have hf := flatT_get qs (j / 2) _ (j % 2) hq2 (by omega)
        rw [show j / 2 * 2 + j % 2 = j by omega] at hf
        by_cases e2 : j / 2 = i
        · have hm : j % 2 = 0 := by omega
          have hg := flatT_get _ i _ (j % 2) hsi (by omega)
          rw [show i * 2 + j % 2 = j by omega] at hg
          rw [hf, hg, hm]
          subst e2
          rfl
        · have hs2 : (qs.set i (qs[i].1, dv'))[j / 2]? = some qs[j / 2] := by rw [List.getElem?_set_ne (by omega), hq2]
          have hg := flatT_get _ (j / 2) _ (j % 2) hs2 (by omega)
          rw [show j / 2 * 2 + j % 2 = j by omega] at hg
          rw [hf, hg]
    have hlen : (qs.set i (qs[i].1, dv')).length = qs.length := List.length_set
    refine ⟨⟨by rw [flatT_length], fun u hu => ?_, .inr ⟨g, off, c, cs.setIfInBounds (off + i * 2 + 1) dv', hb, by rw [hlen], by rw [hlen]; exact h3, h4, (hr.keeps hk (fun h => h)).set _ _, by simpa using h5, fun j hj => hcells j (by rwa [hlen] at hj)⟩⟩, fun q hq => ?_⟩
    · obtain ⟨q, hq, hu⟩ := List.mem_flatMap.1 hu
      rcases List.mem_or_eq_of_mem_set hq with hq | hq
      · exact h0 u (List.mem_flatMap.2 ⟨q, hq, hu⟩)
      · subst hq
        unfold ptcells at hu
        simp only [List.mem_cons, List.not_mem_nil, or_false] at hu
        rcases hu with rfl | rfl
        · rfl
        · exact h1'
    · rcases List.mem_or_eq_of_mem_set hq with hq | hq
      · exact ((hd q hq).keeps hk (fun _ _ h => h)).keeps hks (fun b hb e => hb.2 (by subst e; rfl))
      · subst hq
        exact (hd'.mono (q := fun b => ok b ∧ (Value.slice (some ⟨g, off, none⟩) qs.length c).ownBlock ≠ some b) fun b hb => ⟨hb.1, fun e => hb.2 (by simpa [Value.ownBlock] using e)⟩).keeps hks (fun b hb e => hb.2 (by subst e; rfl))
theorem set_map {qs : List (Pt × Value)} {i : Nat} (hi : i < qs.length) (dv' : Value) : (qs.set i (qs[i].1, dv')).map (·.1) = qs.map (·.1) := by
  rw [List.map_set]
  refine List.ext_getElem? fun j => ?_
  by_cases e : i = j
  · subst e
    rw [List.getElem?_set_self (by simpa using hi)]
    simp [hi]
  · rw [List.getElem?_set_ne e]
end Go.Proofs.Ytiodmhcmciohnaa

/-! slices.SortFunc of nothing; Parts where there are none. -/
namespace Go.Proofs.Ytiodmhcmciohnaa
set_option linter.unusedVariables false
set_option linter.unusedSimpArgs false
open Go.RowKit

theorem insert_none (a : Option Addr) (c : Nat) (fv : Value) (w : World) : Calls Try.prog 47 #[.slice a 0 c, .int .i64 0, .int .i64 0, fv] w fun e w' => (∃ x, e = .returned x) ∧ w = w' := by
  go_enter Try.func47, Try.ntmps47
  go_wp2
  refine wp_loop_rounds 1 ?_
  rw [rounds_succ]
  go_wp2
  refine bodyPost_end (results_none (by rfl) _ _ _) (by rfl) ?_
  exact ⟨⟨_, rfl⟩, rfl⟩
set_option maxRecDepth 100000 in
set_option maxHeartbeats 4000000 in
theorem len_none (w : World) : Calls Try.prog 43 #[.int .u64 0] w fun e w' => e = .returned (.int .i64 0) ∧ w = w' := by
  go_enter Try.func43, Try.ntmps43
  go_wp2
  go_ret
  exact ⟨by kernel_rfl, rfl⟩
theorem pdq_none (a : Option Addr) (c : Nat) (fv : Value) (w : World) : Calls Try.prog 42 #[.slice a 0 c, .int .i64 0, .int .i64 0, .int .i64 0, fv] w fun e w' => (∃ x, e = .returned x) ∧ w = w' := by
  go_enter Try.func42, Try.ntmps42
  go_wp2
  refine wp_loop_rounds 1 ?_
  rw [rounds_succ]
  go_wp2_with (refine (insert_none a c fv w).mono ?_; rintro e w2 ⟨⟨x, rfl⟩, rfl⟩)
  refine bodyPost_ret (results_none (by rfl) _ _ _) (by rfl) ?_
  exact ⟨⟨_, rfl⟩, rfl⟩
theorem sort_none (a : Option Addr) (c : Nat) (fv : Value) (w : World) : Calls Try.prog 37 #[.slice a 0 c, fv] w fun e w' => (∃ x, e = .returned x) ∧ w = w' := by
  go_enter Try.func37, Try.ntmps37
  go_wp2_with (first | (refine (len_none _).mono ?_; rintro e w2 ⟨rfl, rfl⟩) | (refine (pdq_none _ _ _ _).mono ?_; rintro e w2 ⟨⟨x, rfl⟩, rfl⟩))
  first
  | (refine bodyPost_end (results_none (by rfl) _ _ _) (by rfl) ?_; exact ⟨⟨_, rfl⟩, rfl⟩)
  | (refine bodyPost_ret (results_none (by rfl) _ _ _) (by rfl) ?_; exact ⟨⟨_, rfl⟩, rfl⟩)

set_option maxRecDepth 100000 in
set_option maxHeartbeats 1000000 in
theorem clonept_none (a : Option Addr) (c : Nat) (w : World) : Calls Try.prog 35 #[.slice a 0 c] w fun e w' => ∃ a' c', e = .returned (.slice a' 0 c') ∧ c' ≤ maxLen ∧ Keeps (fun _ => False) w w' := by
  have hE := fun (a : Option Addr) (n : Nat) (w : World) => Lib.run_eql_slice_nil (P := Try.prog) w 43 _ a n c 0 0 Try.underlying43
  cases a with
  | none =>
    go_enter Try.func35, Try.ntmps35
    go_wp2
    go_ret
    exact ⟨_, _, rfl, by simp [maxLen], Keeps.refl _ _⟩
  | some ad =>
    obtain ⟨i, hi, hz, hsz, hb⟩ := info_parts info_pt
    have hrun := run_append_nothing (P := Try.prog) (w.alloc (.cells #[] 68)) 43 43 43 68 i Try.underlying43 hi (some ⟨w.heap.size, 0, none⟩) 0 0 (Nat.le_refl _) (.slice (some ad) 0 c) (Src.ofSlice _ Try.underlying43 ad 0 c [] (by simp) (fun j u hu => by simp at hu) (fun _ hu => by cases hu))
    have HR := Lib.hid hrun
    clear hrun
    go_enter Try.func35, Try.ntmps35
    go_wp2_with (at_builtin; refine Lib.wpList_append_run _ rfl _ _ _ _ rfl _ _ rfl rfl _ _ HR.out ?_)
    go_ret
    exact ⟨_, _, rfl, by simp [maxLen], (Keeps.refl (fun _ => False) w).alloc _⟩

set_option maxRecDepth 100000 in
set_option maxHeartbeats 2000000 in
theorem parts_none (X : Nat → Prop) (g : Nat) (room next : Int) (bv pv : Value) (w : World) (hr : RowAt w g #[.int .i64 room, .int .i64 next, bv, pv] 66) (hT : TRd w X pv []) :
    Calls Try.prog 20 #[.pointer (some ⟨g, 0, none⟩)] w fun e w' => ∃ v, e = .returned v ∧ TRd w' (fun _ => True) v [] ∧ Keeps (fun _ => False) w w' := by
  obtain ⟨pa, pc, rfl, -, -⟩ := hT.slice
  have p3 : w.cell? ⟨g, 3, none⟩ = some (.slice pa 0 pc) := hr.cell 3
  have HCL := Lib.hid (clonept_none pa pc w)
  clear hT
  go_enter Try.func20, Try.ntmps20
  go_wp2_with fail
  refine HCL.out.mono ?_
  rintro e w2 ⟨a2, c2, rfl, hc2, hk2⟩
  have HS := Lib.hid (fun fv W => sort_none a2 c2 fv W)
  go_wp2
  refine wp_loop_rounds 1 ?_
  rw [rounds_succ]
  go_wp2_with fail
  refine (HS.out _ _).mono ?_
  rintro e w9 ⟨⟨x9, rfl⟩, rfl⟩
  go_wp2
  go_ret
  exact ⟨_, rfl, ⟨[], rfl, SAt.empty _ _ 2 a2 c2 hc2, fun _ h => by cases h⟩, hk2⟩
end Go.Proofs.Ytiodmhcmciohnaa

/-! redoubtref25.Same of two rows that read the same parts. -/
namespace Go.Proofs.Ytiodmhcmciohnaa
set_option linter.unusedVariables false
set_option linter.unusedSimpArgs false
open Go.RowKit

set_option maxRecDepth 100000 in
set_option maxHeartbeats 2000000 in
theorem same_any (X Y : Nat → Prop) (x y : Value) (L : List Pt) (w : World) (hx : TRd w X x L) (hy : TRd w Y y L) (hl : L.length ≤ 1000000) :
    Calls Try.prog 19 #[x, y] w fun e w' => e = .returned (.bool true) ∧ ∃ m, w' = w.drewN m := by
  obtain ⟨xa, xc, rfl, -, -⟩ := hx.slice
  obtain ⟨ya, yc, rfl, -, -⟩ := hy.slice
  have HX := Lib.hid hx
  have HY := Lib.hid hy
  clear hx hy
  go_enter Try.func19, Try.ntmps19
  go_wp2
  go_loopw [5] (fun u5 wr => ∃ i m : Nat, i ≤ L.length ∧ u5 = .int .i64 i ∧ wr = w.drewN m) (fun u5 _ => L.length - (intOf u5).toNat)
  case atStart => exact ⟨0, 0, Nat.zero_le _, rfl, rfl⟩
  case round =>
    obtain ⟨i, m, hi, rfl, rfl⟩ := hrel
    by_cases hlt : i < L.length
    · obtain ⟨b, off, c, dv, he, hd, k0, k1⟩ := TRd.at HX.out i hlt
      obtain ⟨b', off', c', dv', he', hd', k0', k1'⟩ := TRd.at HY.out i hlt
      obtain ⟨rfl, rfl⟩ : xa = some ⟨b, off, none⟩ ∧ xc = c := by
        simp only [Value.slice.injEq, true_and] at he
        exact he
      obtain ⟨rfl, rfl⟩ : ya = some ⟨b', off', none⟩ ∧ yc = c' := by
        simp only [Value.slice.injEq, true_and] at he'
        exact he'
      obtain ⟨p, hp⟩ : ∃ p, L[i] = p := ⟨_, rfl⟩
      rw [hp] at hd hd' k0 k0'
      obtain ⟨at', data⟩ := p
      simp only at hd hd' k0 k0'
      obtain ⟨da, dc, rfl, -, -⟩ := hd.slice
      obtain ⟨da', dc', rfl, -, -⟩ := hd'.slice
      have ht := fun m => (BAt.keeps hd ((Keeps.refl (fun _ => False) w).drewN m) (fun _ _ h => h)).text
      have ht' := fun m => (BAt.keeps hd' ((Keeps.refl (fun _ => False) w).drewN m) (fun _ _ h => h)).text
      clear he he' hp hd hd'
      go_wp2
      go_quiet (fail)
      go_wp2
      go_roundw
      case rel => exact ⟨i + 1, m + nq, by omega, by go_num, rfl⟩
      case measure => simp [intOf]; omega
    · obtain rfl : i = L.length := by omega
      go_wp2
      go_ret
      exact ⟨rfl, _, rfl⟩
end Go.Proofs.Ytiodmhcmciohnaa

/-! awake of layer 25. -/
namespace Go.Proofs.Ytiodmhcmciohnaa
set_option linter.unusedVariables false
set_option linter.unusedSimpArgs false
open Go.RowKit

def DEF : List UInt8 := [100, 101, 102]
def ABCD : List UInt8 := [97, 98, 99, 100]
def ABCDEF : List UInt8 := [97, 98, 99, 100, 101, 102]
theorem merge_one : mergeF [] (partF 3 0 10 DEF) = [(3, DEF)] := by decide
theorem merge_two : mergeF [(3, DEF)] (partF 0 0 10 ABCD) = [(0, ABCDEF)] := by decide

theorem TRd.ltHeap {w : World} {X : Nat → Prop} {v : Value} {L : List Pt} (h : TRd w X v L) : TRd w (fun b => X b ∧ b < w.heap.size) v L := by
  obtain ⟨qs, h1, h2, h3⟩ := h
  exact ⟨qs, h1, h2.mono fun b hb => ⟨hb, hb.2⟩, fun q hq => (h3 q hq).mono fun b hb => ⟨hb, hb.2⟩⟩

set_option maxRecDepth 100000 in
set_option maxHeartbeats 4000000 in
theorem awake_any (w : World) : Calls Try.prog 10 #[] w fun e w' => e = .returned (.bool true) ∧ Keeps (fun _ => False) w w' := by
  have kc := fun (w : World) (C : Array Value) (n c : Nat) => Lib.run_convert_bytes_const (P := Try.prog) w 30 5 C n c Try.underlying30 Try.underlying5
  go_enter Try.func10, Try.ntmps10
  go_wp2_with fail
  refine (newr_any 10 w).mono ?_
  rintro e w1 ⟨hk1, ⟨hm, -⟩ | ⟨-, g, rfl, hg, hr1⟩⟩
  case inl => cases hm
  go_wp2_with fail
  refine (news_any 4 w1).mono ?_
  rintro e w2 ⟨hk2, ⟨hm, -⟩ | ⟨-, s, rfl, hs, hr2⟩⟩
  case inl => cases hm
  have hgl := hr1.lt
  have hsg : s ≠ g := by omega
  have hkA := hk1.trans hk2 (fun _ _ h => h)
  have hrg := hr1.keeps hk2 (fun h => h)
  have hka := (Keeps.refl (fun _ => False) w2).alloc (.cells #[.int .u8 100, .int .u8 101, .int .u8 102] 5 (3, 4))
  have hd3 : BRd (w2.alloc (.cells #[.int .u8 100, .int .u8 101, .int .u8 102] 5 (3, 4))) (.slice (some ⟨w2.heap.size, 0, none⟩) 3 3) DEF := (BAt.litF w2 _ DEF 3 5 (3, 4) rfl rfl (by decide)).low
  have hput := put0_any (fun b => b ≠ g) g 3 0 10 _ (.slice none 0 0) DEF [] 3 DEF [] _ (hrg.keeps hka (fun h => h)) (TRd.nil _ _) (fun b hb => by have := hka.size; have := hk2.size; omega) (fun b hb => hb) hd3 (fun r hr => by cases hr) (by simp) (by omega) (by decide) (by omega) (by omega) (by omega) (by omega) (by decide) merge_one (by simp)
  have HP := Lib.hid hput
  clear hput
  go_wp2_with fail
  refine HP.out.mono ?_
  rintro e w3 ⟨bv3, pv3, next3, n3, R3, rfl, hr3, hT3, hk3, ⟨-, rfl, rfl, rfl, rfl⟩ | ⟨h, -⟩⟩
  case inr => cases h
  have hs3 := ((hr2.keeps hka (fun h => h)).keeps hk3 hsg)
  have hkB : Keeps (fun _ => False) w w3 := (hkA.trans hka (fun _ _ h => h)).from hk3 (fun b e => by omega)
  clear HP
  go_wp2_with fail
  refine (parts_one _ g 10 0 (.slice none 0 0) pv3 (3, DEF) w3 hr3 hT3 ⟨by decide, by decide⟩).mono ?_
  rintro e w4 ⟨v4, rfl, hT4', hk4⟩
  have hT4 := hT4'.ltHeap
  have hkC := hkB.trans hk4 (fun _ _ h => h)
  have hr4 := hr3.keeps hk4 (fun h => h)
  have hs4 := hs3.keeps hk4 (fun h => h)
  have hT34 := hT3.keeps hk4 (fun _ _ h => h)
  have hkb := (Keeps.refl (fun _ => False) w4).alloc (.cells #[.int .u8 97, .int .u8 98, .int .u8 99, .int .u8 100] 5 (4, 5))
  have hd4 : BRd (w4.alloc (.cells #[.int .u8 97, .int .u8 98, .int .u8 99, .int .u8 100] 5 (4, 5))) (.slice (some ⟨w4.heap.size, 0, none⟩) 4 4) ABCD := (BAt.litF w4 _ ABCD 4 5 (4, 5) rfl rfl (by decide)).low
  have hg4 := hr4.lt
  have hput := put0_any (fun b => b ≠ g) g 0 0 10 _ pv3 ABCD [(3, DEF)] 0 ABCDEF [] _ (hr4.keeps hkb (fun h => h)) (hT34.keeps hkb (fun _ _ h => h)) (fun b hb => by have := hkb.size; omega) (fun b hb => hb) hd4 (fun r hr => by obtain rfl := List.mem_singleton.1 hr; exact ⟨by decide, by decide⟩) (by simp) (by omega) (by decide) (by omega) (by omega) (by omega) (by omega) (by decide) merge_two (by simp)
  have HP := Lib.hid hput
  clear hput
  go_wp2_with fail
  refine HP.out.mono ?_
  rintro e w5 ⟨bv5, pv5, next5, n5, R5, rfl, hr5, hT5, hk5, ⟨h, -⟩ | ⟨-, rfl, rfl, ho5, rfl⟩⟩
  case inl => exact absurd rfl h
  have hs5 := ((hs4.keeps hkb (fun h => h)).keeps hk5 hsg)
  have hT45 := (hT4.keeps hkb (fun _ _ h => h)).keeps hk5 (fun b hb e => by have := hr3.lt; have : w3.heap.size ≤ b := hb.1; omega)
  have hkD : Keeps (fun _ => False) w w5 := (hkC.trans hkb (fun _ _ h => h)).from hk5 (fun b e => by omega)
  obtain ⟨h5, o5, c5, rfl, -, -, hb5⟩ := ho5.place (by decide)
  clear HP
  go_wp2_with (refine (next_any g 10 _ _ pv5 w5 hr5).mono ?_; rintro e w6 ⟨rfl, rfl⟩)
  have e0 : (0 : Int) + (ABCDEF.length : Int) = 6 := rfl
  refine (readall_any g h5 o5 c5 _ 10 _ 9 pv5 ABCDEF w5 hr5 ho5 (by decide) (by decide) (by decide)).mono ?_
  rintro e w7 ⟨v7, rfl, ho7, hr7, hk7⟩
  have hg5 := hr5.lt
  have hsl := hs5.lt
  have hs7 := hs5.keeps hk7 (fun e => by rcases e with e | e; · exact hsg e
                                         · have := hr4.lt; have h1 := hs4.lt; have h2 : (w4.alloc (.cells #[.int .u8 97, .int .u8 98, .int .u8 99, .int .u8 100] 5 (4, 5))).heap.size ≤ h5 := hb5; have := hkb.size; omega)
  have hT47 := hT45.keeps hk7 (fun b hb e => by
    have h1 : w3.heap.size ≤ b := hb.1
    have h2 : b < w4.heap.size := hb.2
    have h3 := hr3.lt
    have h4 : (w4.alloc (.cells #[.int .u8 97, .int .u8 98, .int .u8 99, .int .u8 100] 5 (4, 5))).heap.size ≤ h5 := hb5
    have := hkb.size
    rcases e with e | e <;> omega)
  have hkE : Keeps (fun _ => False) w w7 := hkD.from hk7 (fun b e => by
    have h4 : (w4.alloc (.cells #[.int .u8 97, .int .u8 98, .int .u8 99, .int .u8 100] 5 (4, 5))).heap.size ≤ h5 := hb5
    have := hkb.size
    have := hkC.size
    rcases e with e | e <;> omega)
  have hkc := (Keeps.refl (fun _ => False) w7).alloc (.cells #[.int .u8 97, .int .u8 98, .int .u8 99, .int .u8 100, .int .u8 101, .int .u8 102] 5 (6, 7))
  have hd7 : BRd (w7.alloc (.cells #[.int .u8 97, .int .u8 98, .int .u8 99, .int .u8 100, .int .u8 101, .int .u8 102] 5 (6, 7))) (.slice (some ⟨w7.heap.size, 0, none⟩) 6 6) ABCDEF := (BAt.litF w7 _ ABCDEF 6 5 (6, 7) rfl rfl (by decide)).low
  have hwr := write0_any s 4 4 0 _ ABCDEF _ (hs7.keeps hkc (fun h => h)) hd7 (by omega) (by omega) (by decide) (by decide) (by decide)
  have HWR := Lib.hid hwr
  clear hwr
  go_wp2_with fail
  refine HWR.out.mono ?_
  rintro e w8 ⟨rfl, hk8, bv8, hs8, ho8⟩
  have hl7 := hr7.lt
  have hr8 := (hr7.keeps hkc (fun h => h)).keeps hk8 (fun e => hsg e.symm)
  have hs7l := hs7.lt
  have hT48 := (hT47.keeps hkc (fun _ _ h => h)).keeps hk8 (fun b hb e => by
    have h1 : w3.heap.size ≤ b := hb.1
    have := hs3.lt
    omega)
  have hB8 : BRd w8 v7 ABCDEF := (((ho7.keeps hkc (fun _ _ h => h)).keeps hk8 (fun b hb e => by have h1 := (ho7.block b hb).1; have := hs5.lt; omega))).bat.low
  have hkF : Keeps (fun _ => False) w w8 := (hkE.trans hkc (fun _ _ h => h)).from hk8 (fun b e => by have := hk1.size; omega)
  obtain ⟨a8, c8, rfl, -, -⟩ := BOwn.slice ho8
  clear HWR
  have hpk := peekrest_any s 1 3 c8 a8 4 0 9 (ABCDEF.take 4) w8 hs8 ho8.bat.low (by omega) (by omega) (by decide) (by omega) (by decide) (by decide)
  have HPK := Lib.hid hpk
  clear hpk
  go_wp2_with fail
  refine HPK.out.mono ?_
  rintro e w9 ⟨v9, rfl, ho9, hk9⟩
  have hr9 := hr8.keeps hk9 (fun h => h)
  have hT49 := hT48.keeps hk9 (fun _ _ h => h)
  have hB9 := hB8.keeps hk9
  have hkG := hkF.trans hk9 (fun _ _ h => h)
  have hP9 : BRd w9 v9 [98, 99, 100] := ho9.bat.low
  have e6 : (ABCDEF.length : Int) = 6 := rfl
  obtain ⟨a7, c7, rfl, -, -⟩ := hB9.slice
  obtain ⟨a9, c9, rfl, -, -⟩ := hP9.slice
  have hsz : (w9.alloc (.cells #[.int .u8 100, .int .u8 101, .int .u8 102] 5 (3, 4))).heap.size = w9.heap.size + 1 := Array.size_push _
  have hke := (Keeps.refl (fun _ => False) w9).alloc (.cells #[.int .u8 100, .int .u8 101, .int .u8 102] 5 (3, 4))
  have hkf := hke.alloc (.cells #[.int .i64 3, .slice (some ⟨w9.heap.size, 0, none⟩) 3 3] 68)
  have hd9 : BRd (w9.alloc (.cells #[.int .u8 100, .int .u8 101, .int .u8 102] 5 (3, 4))) (.slice (some ⟨w9.heap.size, 0, none⟩) 3 3) DEF := (BAt.litF w9 _ DEF 3 5 (3, 4) rfl rfl (by decide)).low
  have hsp := sat_pt (w9.alloc (.cells #[.int .u8 100, .int .u8 101, .int .u8 102] 5 (3, 4))) (3, DEF) (.slice (some ⟨w9.heap.size, 0, none⟩) 3 3) 68
  rw [hsz] at hsp
  have hTl : TRd ((w9.alloc (.cells #[.int .u8 100, .int .u8 101, .int .u8 102] 5 (3, 4))).alloc (.cells #[.int .i64 3, .slice (some ⟨w9.heap.size, 0, none⟩) 3 3] 68)) (fun _ => True) (.slice (some ⟨w9.heap.size + 1, 0, none⟩) 1 1) [(3, DEF)] :=
    ⟨[((3, DEF), .slice (some ⟨w9.heap.size, 0, none⟩) 3 3)], rfl, (SAt.lt hsp).mono fun b hb => hb, fun q hq => by
      obtain rfl := List.mem_singleton.1 hq
      exact ((hd9.keeps ((Keeps.refl (fun _ => False) _).alloc _)).mono fun b hb => ⟨trivial, hb⟩)⟩
  have hTx := hT49.keeps hkf (fun _ _ h => h)
  have hrx := hr9.keeps hkf (fun h => h)
  have hBx := hB9.keeps hkf
  have hPx := hP9.keeps hkf
  have hkH := hkG.trans hkf (fun _ _ h => h)
  obtain ⟨a4, c4, rfl, -, -⟩ := hTx.slice
  go_wp2_with fail
  refine (same1_any _ _ _ _ (3, DEF) _ hTx hTl).mono ?_
  rintro e wa ⟨rfl, ma, rfl⟩
  have hkm := (Keeps.refl (fun _ => False) ((w9.alloc (.cells #[.int .u8 100, .int .u8 101, .int .u8 102] 5 (3, 4))).alloc (.cells #[.int .i64 3, .slice (some ⟨w9.heap.size, 0, none⟩) 3 3] 68))).drewN ma
  have t7 := (hBx.keeps hkm).text
  have hry := hrx.keeps hkm (fun h => h)
  go_wp2_with fail
  refine (room_any g _ pv5 10 _ 0 (some ⟨h5, o5, none⟩) c5 _ hry rfl (by omega) (by omega) (by omega)).mono ?_
  rintro e wb ⟨rfl, mb, rfl⟩
  have t9 : (convert 30 9 (.slice a9 3 c9)).run Try.prog (((w9.alloc (.cells #[.int .u8 100, .int .u8 101, .int .u8 102] 5 (3, 4))).alloc (.cells #[.int .i64 3, .slice (some ⟨w9.heap.size, 0, none⟩) 3 3] 68)).drewN (ma + mb)) = .ok (.string ⟨#[98, 99, 100]⟩) (((w9.alloc (.cells #[.int .u8 100, .int .u8 101, .int .u8 102] 5 (3, 4))).alloc (.cells #[.int .i64 3, .slice (some ⟨w9.heap.size, 0, none⟩) 3 3] 68)).drewN (ma + mb)) := (hPx.keeps ((Keeps.refl (fun _ => False) ((w9.alloc (.cells #[.int .u8 100, .int .u8 101, .int .u8 102] 5 (3, 4))).alloc (.cells #[.int .i64 3, .slice (some ⟨w9.heap.size, 0, none⟩) 3 3] 68))).drewN (ma + mb))).text
  go_wp2
  go_ret
  exact ⟨rfl, hkH.drewN (ma + mb)⟩
end Go.Proofs.Ytiodmhcmciohnaa
