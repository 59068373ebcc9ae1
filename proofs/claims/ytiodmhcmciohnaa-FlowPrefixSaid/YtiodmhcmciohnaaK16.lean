/- Words, walks and plain laws that the claim leans on, part 16. -/
import Derived.Test.YtiodmhcmciohnaaK11

/-! (*Receiver).Put in general. -/
namespace Go.Proofs.Ytiodmhcmciohnaa
set_option linter.unusedVariables false
set_option linter.unusedSimpArgs false
open Go.RowKit

theorem TRd.mono {w : World} {X Y : Nat → Prop} {v : Value} {L : List Pt} (h : TRd w X v L) (hXY : ∀ b, X b → b < w.heap.size → Y b) : TRd w Y v L := by
  obtain ⟨qs, h1, h2, h3⟩ := h
  exact ⟨qs, h1, SAt.mono h2 fun b hb => ⟨hXY b hb.1 hb.2, hb.2⟩, fun q hq => (h3 q hq).mono fun b hb => ⟨hXY b hb.1 hb.2, hb.2⟩⟩
/-- Blocks that are neither the receiver's own nor those of its bytes. -/
def OffG (g : Nat) (bv : Value) (Z : Nat → Prop) (b : Nat) : Prop := b ≠ g ∧ bv.ownBlock ≠ some b ∧ ¬ Z b

/-- How a Put ends where something may be put. -/
def Put1R (Z : Nat → Prop) (g B : Nat) (room next : Int) (front l : List UInt8) (R : List Pt) (bv : Value) (w : World) (e : Ending) (w' : World) : Prop :=
  (64 < R.length ∧ e = .returned (.tuple #[.int .i64 0, .int .i64 7]) ∧ Keeps (fun _ => False) w w') ∨
  (R.length ≤ 64 ∧ e = .returned (.tuple #[.int .i64 front.length, .int .i64 0]) ∧ ∃ bv' pv', RowAt w' g #[.int .i64 room, .int .i64 (next + front.length), bv', pv'] 66 ∧ BOwn w' B bv' (l ++ front) ∧ TRd w' (OffG g bv' Z) pv' R ∧ Keeps (fun b => b = g ∨ bv.ownBlock = some b) w w' ∧
    (bv'.ownBlock = bv.ownBlock ∨ ∃ b, bv'.ownBlock = some b ∧ w.heap.size ≤ b))

set_option maxRecDepth 100000 in
set_option maxHeartbeats 1000000 in
theorem put_none (g : Nat) (at' next room : Int) (bv dv pv : Value) (data l : List UInt8) (w : World)
    (hr : RowAt w g #[.int .i64 room, .int .i64 next, bv, pv] 66) (ho : BAt w (· < w.heap.size) bv l) (hd : BRd w dv data)
    (h1 : 0 ≤ at') (h2 : at' + data.length ≤ 1000000000) (h3 : 0 ≤ next) (h4 : next ≤ 100000000) (h5 : 0 ≤ room) (h6 : room ≤ 65535) (hl : l.length ≤ 1000000) (h7 : highF at' next (room - l.length) data.length ≤ lowF at' next) :
    Calls Try.prog 12 #[.pointer (some ⟨g, 0, none⟩), .int .i64 at', dv] w fun e w' => e = .returned (.tuple #[.int .i64 0, .int .i64 0]) ∧ ∃ m, w' = w.drewN m := by
  obtain ⟨ba, bc, rfl, -, -⟩ := BAt.slice ho
  obtain ⟨da, dc, rfl, -, -⟩ := BAt.slice hd
  obtain ⟨low, hlow⟩ : ∃ x, lowF at' next = x := ⟨_, rfl⟩
  obtain ⟨high, hhigh⟩ : ∃ x, highF at' next (room - l.length) data.length = x := ⟨_, rfl⟩
  rw [hlow, hhigh] at h7
  have hmx : (if at' < next then next else at') = low := hlow
  have hmn : (if next + (room - (l.length : Int)) < at' + (data.length : Int) then next + (room - (l.length : Int)) else at' + (data.length : Int)) = high := hhigh
  have q3 := i64_fit (at' + (data.length : Int)) (by omega) (by omega)
  have q4 := i64_fit (next + (room - (l.length : Int))) (by omega) (by omega)
  have q5 := i64_fit (1000000000 - (data.length : Int)) (by omega) (by omega)
  have hg0 : ¬ at' < 0 := by omega
  have hg1 : ¬ 1000000000 - (data.length : Int) < at' := by omega
  have p0 : w.cell? ⟨g, 0, none⟩ = some (.int .i64 room) := hr.cell 0
  have p1 : w.cell? ⟨g, 1, none⟩ = some (.int .i64 next) := hr.cell 1
  have hroom := Lib.hid (fun W' (hk : Keeps (fun _ => False) w W') => room_any g (.slice ba l.length bc) pv room next l.length ba bc W' (hr.keeps hk (fun h => h)) rfl (by omega) (by omega) (by omega))
  clear hlow hhigh
  go_enter Try.func12, Try.ntmps12
  go_wp2
  refine region_T [] (fun x => x.cell? ⟨g, 0, none⟩ = some (.int .i64 room) ∧ x.cell? ⟨g, 1, none⟩ = some (.int .i64 next)) (by kernel_rfl) ?_
  have hC : (fun x : World => x.cell? ⟨g, 0, none⟩ = some (.int .i64 room) ∧ x.cell? ⟨g, 1, none⟩ = some (.int .i64 next)) w.drew := ⟨p0, p1⟩
  refine anyT_take0 (i := 0) (v := ?_) rfl (by kernel_rfl) (by kernel_rfl) (by kernel_rfl) (by kernel_rfl) (by kernel_rfl) (fun _ _ _ h => h) hC (.inl ⟨by rfl, fun _ _ => ?_⟩) ?_
  rotate_left 1
  · go_simp
    try with_reducible rfl
  simp only [Act.put, List.getElem_toArray, List.getElem_cons_succ, List.getElem_cons_zero, List.setIfInBounds_toArray, List.set_cons_zero, List.set_cons_succ]
  refine anyT_take0 (i := 1) (v := ?_) rfl (by kernel_rfl) (by kernel_rfl) (by kernel_rfl) (by kernel_rfl) (by kernel_rfl) (fun _ _ _ h => h) hC (.inl ⟨by rfl, fun _ _ => ?_⟩) ?_
  rotate_left 1
  · go_simp
    try with_reducible rfl
  simp only [Act.put, List.getElem_toArray, List.getElem_cons_succ, List.getElem_cons_zero, List.setIfInBounds_toArray, List.set_cons_zero, List.set_cons_succ]
  refine anyT_take0 (i := 2) (v := ?_) rfl (by kernel_rfl) (by kernel_rfl) (by kernel_rfl) (by kernel_rfl) (by kernel_rfl) (fun _ _ _ h => h) hC (.inl ⟨by rfl, fun _ _ => ?_⟩) ?_
  rotate_left 1
  · go_simp
    try with_reducible rfl
  simp only [Act.put, List.getElem_toArray, List.getElem_cons_succ, List.getElem_cons_zero, List.setIfInBounds_toArray, List.set_cons_zero, List.set_cons_succ]
  refine anyT_take0 (i := 3) (v := ?_) rfl (by kernel_rfl) (by kernel_rfl) (by kernel_rfl) (by kernel_rfl) (by kernel_rfl) (fun _ _ _ h => h) hC (.inl ⟨by rfl, fun _ _ => ?_⟩) ?_
  rotate_left 1
  · go_simp
    try with_reducible rfl
  simp only [Act.put, List.getElem_toArray, List.getElem_cons_succ, List.getElem_cons_zero, List.setIfInBounds_toArray, List.set_cons_zero, List.set_cons_succ]
  refine anyT_takeC (i := 4) (v := ?_) rfl (by kernel_rfl) (by kernel_rfl) (by kernel_rfl) (by kernel_rfl) (by kernel_rfl) (by kernel_rfl) (fun _ _ _ h => h) hC (.inl ⟨by rfl, fun w hCw => ?_⟩) ?_
  rotate_left 1
  · dsimp only at hCw
    go_simp
    try with_reducible rfl
  simp only [Act.put, List.getElem_toArray, List.getElem_cons_succ, List.getElem_cons_zero, List.setIfInBounds_toArray, List.set_cons_zero, List.set_cons_succ]
  refine anyT_take0 (i := 5) (v := ?_) rfl (by kernel_rfl) (by kernel_rfl) (by kernel_rfl) (by kernel_rfl) (by kernel_rfl) (fun _ _ _ h => h) hC (.inl ⟨by rfl, fun _ _ => ?_⟩) ?_
  rotate_left 1
  · go_simp
    try with_reducible rfl
  simp only [Act.put, List.getElem_toArray, List.getElem_cons_succ, List.getElem_cons_zero, List.setIfInBounds_toArray, List.set_cons_zero, List.set_cons_succ]
  refine anyT_take0 (i := 6) (v := ?_) rfl (by kernel_rfl) (by kernel_rfl) (by kernel_rfl) (by kernel_rfl) (by kernel_rfl) (fun _ _ _ h => h) hC (.inl ⟨by rfl, fun _ _ => ?_⟩) ?_
  rotate_left 1
  · go_simp
    try with_reducible rfl
  simp only [Act.put, List.getElem_toArray, List.getElem_cons_succ, List.getElem_cons_zero, List.setIfInBounds_toArray, List.set_cons_zero, List.set_cons_succ]
  refine anyT_take0 (i := 7) (v := ?_) rfl (by kernel_rfl) (by kernel_rfl) (by kernel_rfl) (by kernel_rfl) (by kernel_rfl) (fun _ _ _ h => h) hC (.inl ⟨by rfl, fun _ _ => ?_⟩) ?_
  rotate_left 1
  · go_simp
    try with_reducible rfl
  simp only [Act.put, List.getElem_toArray, List.getElem_cons_succ, List.getElem_cons_zero, List.setIfInBounds_toArray, List.set_cons_zero, List.set_cons_succ]
  refine anyT_take0 (i := 8) (v := ?_) rfl (by kernel_rfl) (by kernel_rfl) (by kernel_rfl) (by kernel_rfl) (by kernel_rfl) (fun _ _ _ h => h) hC (.inl ⟨by rfl, fun _ _ => ?_⟩) ?_
  rotate_left 1
  · go_simp
    try with_reducible rfl
  simp only [Act.put, List.getElem_toArray, List.getElem_cons_succ, List.getElem_cons_zero, List.setIfInBounds_toArray, List.set_cons_zero, List.set_cons_succ]
  refine anyT_take0 (i := 9) (v := ?_) rfl (by kernel_rfl) (by kernel_rfl) (by kernel_rfl) (by kernel_rfl) (by kernel_rfl) (fun _ _ _ h => h) hC (.inl ⟨by rfl, fun _ _ => ?_⟩) ?_
  rotate_left 1
  · go_simp
    try with_reducible rfl
  simp only [Act.put, List.getElem_toArray, List.getElem_cons_succ, List.getElem_cons_zero, List.setIfInBounds_toArray, List.set_cons_zero, List.set_cons_succ]
  refine anyT_take0 (i := 10) (v := ?_) rfl (by kernel_rfl) (by kernel_rfl) (by kernel_rfl) (by kernel_rfl) (by kernel_rfl) (fun _ _ _ h => h) hC (.inl ⟨by rfl, fun _ _ => ?_⟩) ?_
  rotate_left 1
  · go_simp
    try with_reducible rfl
  simp only [Act.put, List.getElem_toArray, List.getElem_cons_succ, List.getElem_cons_zero, List.setIfInBounds_toArray, List.set_cons_zero, List.set_cons_succ]
  refine anyT_take0 (i := 11) (v := ?_) rfl (by kernel_rfl) (by kernel_rfl) (by kernel_rfl) (by kernel_rfl) (by kernel_rfl) (fun _ _ _ h => h) hC (.inl ⟨by rfl, fun _ _ => ?_⟩) ?_
  rotate_left 1
  · go_simp
    try with_reducible rfl
  simp only [Act.put, List.getElem_toArray, List.getElem_cons_succ, List.getElem_cons_zero, List.setIfInBounds_toArray, List.set_cons_zero, List.set_cons_succ]
  refine anyT_take0 (i := 12) (v := ?_) rfl (by kernel_rfl) (by kernel_rfl) (by kernel_rfl) (by kernel_rfl) (by kernel_rfl) (fun _ _ _ h => h) hC (.inl ⟨by rfl, fun _ _ => ?_⟩) ?_
  rotate_left 1
  · go_simp
    try with_reducible rfl
  simp only [Act.put, List.getElem_toArray, List.getElem_cons_succ, List.getElem_cons_zero, List.setIfInBounds_toArray, List.set_cons_zero, List.set_cons_succ]
  refine anyT_takeC (i := 13) (v := ?_) rfl (by kernel_rfl) (by kernel_rfl) (by kernel_rfl) (by kernel_rfl) (by kernel_rfl) (by kernel_rfl) (fun _ _ _ h => h) hC (.inl ⟨by rfl, fun w hCw => ?_⟩) ?_
  rotate_left 1
  · dsimp only at hCw
    go_simp
    try with_reducible rfl
  simp only [Act.put, List.getElem_toArray, List.getElem_cons_succ, List.getElem_cons_zero, List.setIfInBounds_toArray, List.set_cons_zero, List.set_cons_succ]
  refine anyT_take0 (i := 14) (v := ?_) rfl (by kernel_rfl) (by kernel_rfl) (by kernel_rfl) (by kernel_rfl) (by kernel_rfl) (fun _ _ _ h => h) hC (.inl ⟨by rfl, fun _ _ => ?_⟩) ?_
  rotate_left 1
  · go_simp
    try with_reducible rfl
  simp only [Act.put, List.getElem_toArray, List.getElem_cons_succ, List.getElem_cons_zero, List.setIfInBounds_toArray, List.set_cons_zero, List.set_cons_succ]
  refine anyT_force (i := 15) rfl (by kernel_rfl) (by rfl) ?_
  go_simp
  refine (hroom.out _ (Keeps.refl (fun _ => False) w).drew).mono ?_
  rintro e w2 ⟨rfl, m2, rfl⟩
  have hk2 : Keeps (fun _ => False) w (w.drew.drewN m2) := (Keeps.refl (fun _ => False) w).drew.drewN m2
  refine ⟨fun _ => ⟨p0, p1⟩, ?_⟩
  have hC : (fun x : World => x.cell? ⟨g, 0, none⟩ = some (.int .i64 room) ∧ x.cell? ⟨g, 1, none⟩ = some (.int .i64 next)) (w.drew.drewN m2) := ⟨p0, p1⟩
  refine anyT_take0 (i := 16) (v := ?_) rfl (by kernel_rfl) (by kernel_rfl) (by kernel_rfl) (by kernel_rfl) (by kernel_rfl) (fun _ _ _ h => h) hC (.inl ⟨by rfl, fun _ _ => ?_⟩) ?_
  rotate_left 1
  · go_simp
    try with_reducible rfl
  simp only [Act.put, List.getElem_toArray, List.getElem_cons_succ, List.getElem_cons_zero, List.setIfInBounds_toArray, List.set_cons_zero, List.set_cons_succ]
  refine anyT_take0 (i := 17) (v := ?_) rfl (by kernel_rfl) (by kernel_rfl) (by kernel_rfl) (by kernel_rfl) (by kernel_rfl) (fun _ _ _ h => h) hC (.inl ⟨by rfl, fun _ _ => ?_⟩) ?_
  rotate_left 1
  · go_simp
    try with_reducible rfl
  simp only [Act.put, List.getElem_toArray, List.getElem_cons_succ, List.getElem_cons_zero, List.setIfInBounds_toArray, List.set_cons_zero, List.set_cons_succ]
  refine anyT_take0 (i := 18) (v := ?_) rfl (by kernel_rfl) (by kernel_rfl) (by kernel_rfl) (by kernel_rfl) (by kernel_rfl) (fun _ _ _ h => h) hC (.inl ⟨by rfl, fun _ _ => ?_⟩) ?_
  rotate_left 1
  · go_simp
    try with_reducible rfl
  simp only [Act.put, List.getElem_toArray, List.getElem_cons_succ, List.getElem_cons_zero, List.setIfInBounds_toArray, List.set_cons_zero, List.set_cons_succ]
  refine anyT_take0 (i := 19) (v := ?_) rfl (by kernel_rfl) (by kernel_rfl) (by kernel_rfl) (by kernel_rfl) (by kernel_rfl) (fun _ _ _ h => h) hC (.inl ⟨by rfl, fun _ _ => ?_⟩) ?_
  rotate_left 1
  · go_simp
    try with_reducible rfl
  simp only [Act.put, List.getElem_toArray, List.getElem_cons_succ, List.getElem_cons_zero, List.setIfInBounds_toArray, List.set_cons_zero, List.set_cons_succ]
  refine (show anyT _ _ _ _ _ _ 0 _ _ _ from ⟨by kernel_rfl, ?_⟩)
  go_wp2_with fail
  go_ret2
  exact ⟨rfl, _, rfl⟩

set_option maxRecDepth 100000 in
set_option maxHeartbeats 4000000 in
theorem put_any (Z : Nat → Prop) (g B : Nat) (at' next room : Int) (bv dv pv : Value) (data l : List UInt8) (L : List Pt) (a : Int) (d : List UInt8) (rest : List Pt) (front : List UInt8) (R : List Pt) (w : World)
    (hr : RowAt w g #[.int .i64 room, .int .i64 next, bv, pv] 66) (ho : BOwn w B bv l) (hBw : B ≤ w.heap.size) (hZ : ∀ b, Z b → b < w.heap.size) (hL : TRd w (OffG g bv Z) pv L) (hd : BRd w dv data) (hb : ∀ r ∈ L, Bd r) (hl : L.length ≤ 40000)
    (h1 : 0 ≤ at') (h2 : at' + data.length ≤ 1000000000) (h3 : 0 ≤ next) (h4 : next ≤ 100000000) (h5 : 0 ≤ room) (h6 : room ≤ 65535) (hll : l.length ≤ 1000000) (h7 : lowF at' next < highF at' next (room - l.length) data.length)
    (hM : mergeF L (partF at' next (room - l.length) data) = (a, d) :: rest) (hfr : (a = next ∧ front = d ∧ R = rest) ∨ (a ≠ next ∧ front = [] ∧ R = (a, d) :: rest)) :
    Calls Try.prog 12 #[.pointer (some ⟨g, 0, none⟩), .int .i64 at', dv] w (Put1R Z g B room next front l R bv w) := by
  obtain ⟨ba, bc, rfl, hbc, hbm⟩ := BOwn.slice ho
  obtain ⟨X, hXd⟩ : ∃ X, OffG g (.slice ba l.length bc) Z = X := ⟨_, rfl⟩
  have hgb : (Value.slice ba l.length bc).ownBlock ≠ some g := ho.apart hr (by decide)
  have hX : ∀ b, w.heap.size ≤ b → X b := fun b hb => by
    rw [← hXd]
    exact ⟨fun e => by have := hr.lt; omega, fun e => by have := (ho.block b e).2; omega, fun e => by have := hZ b e; omega⟩
  have hXg : ∀ b, X b → b ≠ g := fun b hb => by rw [← hXd] at hb; exact hb.1
  have hXb : ∀ b, X b → (Value.slice ba l.length bc).ownBlock ≠ some b := fun b hb => by rw [← hXd] at hb; exact hb.2.1
  have hXz := Lib.hid (fun b (hb : X b) => (show ¬ Z b by rw [← hXd] at hb; exact hb.2.2))
  rw [hXd] at hL
  clear hXd
  have hmf : ∀ (fn : Fn) (first cap : Array Value) (w : World), (Instr.makeFunc fn first cap).run Try.prog w = .ok (.func fn first cap) w := fun _ _ _ _ => rfl
  obtain ⟨low, hlow⟩ : ∃ x, lowF at' next = x := ⟨_, rfl⟩
  obtain ⟨high, hhigh⟩ : ∃ x, highF at' next (room - l.length) data.length = x := ⟨_, rfl⟩
  unfold partF at hM
  rw [hlow, hhigh] at hM
  rw [hlow, hhigh] at h7
  have hmx : (if at' < next then next else at') = low := hlow
  have hmn : (if next + (room - (l.length : Int)) < at' + (data.length : Int) then next + (room - (l.length : Int)) else at' + (data.length : Int)) = high := hhigh
  obtain ⟨lo, hlo⟩ : ∃ x, (low - at').toNat = x := ⟨_, rfl⟩
  obtain ⟨hi, hhi⟩ : ∃ x, (high - at').toNat = x := ⟨_, rfl⟩
  rw [hlo, hhi] at hM
  have b1 : at' ≤ low ∧ next ≤ low := by rw [← hmx]; split <;> omega
  have b2 : high ≤ next + (room - (l.length : Int)) ∧ high ≤ at' + data.length := by rw [← hmn]; split <;> omega
  have q1 : IntKind.i64.wrap (low - at') = (lo : Int) := by rw [i64_fit _ (by omega) (by omega)]; omega
  have q2 : IntKind.i64.wrap (high - at') = (hi : Int) := by rw [i64_fit _ (by omega) (by omega)]; omega
  have q3 := i64_fit (at' + (data.length : Int)) (by omega) (by omega)
  have q4 := i64_fit (next + (room - (l.length : Int))) (by omega) (by omega)
  have q5 := i64_fit (1000000000 - (data.length : Int)) (by omega) (by omega)
  have hlh : (lo : Int) ≤ (hi : Int) := by omega
  have hhl : hi ≤ data.length := by omega
  have hg0 : ¬ at' < 0 := by omega
  have hg1 : ¬ 1000000000 - (data.length : Int) < at' := by omega
  obtain ⟨db, do_, dc, rfl, hdc, hdm, hdb, -⟩ := BAt.get hd (by omega)
  simp only [maxLen] at hdm
  have hhd : (hi : Int) ≤ (dc : Int) := by omega
  obtain ⟨o2, e2, hdrop, -⟩ := BAt.cut hd lo (by omega)
  have hcn : ¬ dc = lo := by omega
  rw [if_neg hcn] at e2
  simp only [Option.some.injEq, Addr.mk.injEq, and_true, true_and] at e2
  subst e2
  rw [← List.length_drop] at hdrop
  have hpc := BAt.take hdrop (hi - lo) (by rw [List.length_drop]; omega)
  have hpl : ((data.drop lo).take (hi - lo)).length = hi - lo := by rw [List.length_take, List.length_drop]; omega
  obtain ⟨PD, hPD⟩ : ∃ PD, (data.drop lo).take (hi - lo) = PD := ⟨_, rfl⟩
  rw [hPD] at hM hpc hpl
  have hbp : Bd (low, PD) := ⟨by show 0 ≤ low; omega, by show low + (PD.length : Int) ≤ _; omega⟩
  have p0 : w.cell? ⟨g, 0, none⟩ = some (.int .i64 room) := hr.cell 0
  have p1 : w.cell? ⟨g, 1, none⟩ = some (.int .i64 next) := hr.cell 1
  have h7' : ¬ high ≤ low := by omega
  have HPC := Lib.hid hpc
  have HM := Lib.hid hM
  have HB := Lib.hid hb
  have hbd := mergeF_bd L (low, PD) hb hbp (a, d) (by rw [hM]; simp)
  have hdl := hbd.len
  simp only at hdl
  have HPL := Lib.hid hpl
  have hroom := Lib.hid (fun W' (hk : Keeps (fun _ => False) w W') => room_any g (.slice ba l.length bc) pv room next l.length ba bc W' (hr.keeps hk (fun h => h)) rfl (by omega) (by omega) (by omega))
  clear hpc hM hb hdrop hlow hhigh hPD hlo hhi hpl
  go_enter Try.func12, Try.ntmps12
  go_wp2
  refine region_T [] (fun x => x.cell? ⟨g, 0, none⟩ = some (.int .i64 room) ∧ x.cell? ⟨g, 1, none⟩ = some (.int .i64 next)) (by kernel_rfl) ?_
  have hC : (fun x : World => x.cell? ⟨g, 0, none⟩ = some (.int .i64 room) ∧ x.cell? ⟨g, 1, none⟩ = some (.int .i64 next)) w.drew := ⟨p0, p1⟩
  refine anyT_take0 (i := 0) (v := ?_) rfl (by kernel_rfl) (by kernel_rfl) (by kernel_rfl) (by kernel_rfl) (by kernel_rfl) (fun _ _ _ h => h) hC (.inl ⟨by rfl, fun _ _ => ?_⟩) ?_
  rotate_left 1
  · go_simp
    try with_reducible rfl
  simp only [Act.put, List.getElem_toArray, List.getElem_cons_succ, List.getElem_cons_zero, List.setIfInBounds_toArray, List.set_cons_zero, List.set_cons_succ]
  refine anyT_take0 (i := 1) (v := ?_) rfl (by kernel_rfl) (by kernel_rfl) (by kernel_rfl) (by kernel_rfl) (by kernel_rfl) (fun _ _ _ h => h) hC (.inl ⟨by rfl, fun _ _ => ?_⟩) ?_
  rotate_left 1
  · go_simp
    try with_reducible rfl
  simp only [Act.put, List.getElem_toArray, List.getElem_cons_succ, List.getElem_cons_zero, List.setIfInBounds_toArray, List.set_cons_zero, List.set_cons_succ]
  refine anyT_take0 (i := 2) (v := ?_) rfl (by kernel_rfl) (by kernel_rfl) (by kernel_rfl) (by kernel_rfl) (by kernel_rfl) (fun _ _ _ h => h) hC (.inl ⟨by rfl, fun _ _ => ?_⟩) ?_
  rotate_left 1
  · go_simp
    try with_reducible rfl
  simp only [Act.put, List.getElem_toArray, List.getElem_cons_succ, List.getElem_cons_zero, List.setIfInBounds_toArray, List.set_cons_zero, List.set_cons_succ]
  refine anyT_take0 (i := 3) (v := ?_) rfl (by kernel_rfl) (by kernel_rfl) (by kernel_rfl) (by kernel_rfl) (by kernel_rfl) (fun _ _ _ h => h) hC (.inl ⟨by rfl, fun _ _ => ?_⟩) ?_
  rotate_left 1
  · go_simp
    try with_reducible rfl
  simp only [Act.put, List.getElem_toArray, List.getElem_cons_succ, List.getElem_cons_zero, List.setIfInBounds_toArray, List.set_cons_zero, List.set_cons_succ]
  refine anyT_takeC (i := 4) (v := ?_) rfl (by kernel_rfl) (by kernel_rfl) (by kernel_rfl) (by kernel_rfl) (by kernel_rfl) (by kernel_rfl) (fun _ _ _ h => h) hC (.inl ⟨by rfl, fun w hCw => ?_⟩) ?_
  rotate_left 1
  · dsimp only at hCw
    go_simp
    try with_reducible rfl
  simp only [Act.put, List.getElem_toArray, List.getElem_cons_succ, List.getElem_cons_zero, List.setIfInBounds_toArray, List.set_cons_zero, List.set_cons_succ]
  refine anyT_take0 (i := 5) (v := ?_) rfl (by kernel_rfl) (by kernel_rfl) (by kernel_rfl) (by kernel_rfl) (by kernel_rfl) (fun _ _ _ h => h) hC (.inl ⟨by rfl, fun _ _ => ?_⟩) ?_
  rotate_left 1
  · go_simp
    try with_reducible rfl
  simp only [Act.put, List.getElem_toArray, List.getElem_cons_succ, List.getElem_cons_zero, List.setIfInBounds_toArray, List.set_cons_zero, List.set_cons_succ]
  refine anyT_take0 (i := 6) (v := ?_) rfl (by kernel_rfl) (by kernel_rfl) (by kernel_rfl) (by kernel_rfl) (by kernel_rfl) (fun _ _ _ h => h) hC (.inl ⟨by rfl, fun _ _ => ?_⟩) ?_
  rotate_left 1
  · go_simp
    try with_reducible rfl
  simp only [Act.put, List.getElem_toArray, List.getElem_cons_succ, List.getElem_cons_zero, List.setIfInBounds_toArray, List.set_cons_zero, List.set_cons_succ]
  refine anyT_take0 (i := 7) (v := ?_) rfl (by kernel_rfl) (by kernel_rfl) (by kernel_rfl) (by kernel_rfl) (by kernel_rfl) (fun _ _ _ h => h) hC (.inl ⟨by rfl, fun _ _ => ?_⟩) ?_
  rotate_left 1
  · go_simp
    try with_reducible rfl
  simp only [Act.put, List.getElem_toArray, List.getElem_cons_succ, List.getElem_cons_zero, List.setIfInBounds_toArray, List.set_cons_zero, List.set_cons_succ]
  refine anyT_take0 (i := 8) (v := ?_) rfl (by kernel_rfl) (by kernel_rfl) (by kernel_rfl) (by kernel_rfl) (by kernel_rfl) (fun _ _ _ h => h) hC (.inl ⟨by rfl, fun _ _ => ?_⟩) ?_
  rotate_left 1
  · go_simp
    try with_reducible rfl
  simp only [Act.put, List.getElem_toArray, List.getElem_cons_succ, List.getElem_cons_zero, List.setIfInBounds_toArray, List.set_cons_zero, List.set_cons_succ]
  refine anyT_take0 (i := 9) (v := ?_) rfl (by kernel_rfl) (by kernel_rfl) (by kernel_rfl) (by kernel_rfl) (by kernel_rfl) (fun _ _ _ h => h) hC (.inl ⟨by rfl, fun _ _ => ?_⟩) ?_
  rotate_left 1
  · go_simp
    try with_reducible rfl
  simp only [Act.put, List.getElem_toArray, List.getElem_cons_succ, List.getElem_cons_zero, List.setIfInBounds_toArray, List.set_cons_zero, List.set_cons_succ]
  refine anyT_take0 (i := 10) (v := ?_) rfl (by kernel_rfl) (by kernel_rfl) (by kernel_rfl) (by kernel_rfl) (by kernel_rfl) (fun _ _ _ h => h) hC (.inl ⟨by rfl, fun _ _ => ?_⟩) ?_
  rotate_left 1
  · go_simp
    try with_reducible rfl
  simp only [Act.put, List.getElem_toArray, List.getElem_cons_succ, List.getElem_cons_zero, List.setIfInBounds_toArray, List.set_cons_zero, List.set_cons_succ]
  refine anyT_take0 (i := 11) (v := ?_) rfl (by kernel_rfl) (by kernel_rfl) (by kernel_rfl) (by kernel_rfl) (by kernel_rfl) (fun _ _ _ h => h) hC (.inl ⟨by rfl, fun _ _ => ?_⟩) ?_
  rotate_left 1
  · go_simp
    try with_reducible rfl
  simp only [Act.put, List.getElem_toArray, List.getElem_cons_succ, List.getElem_cons_zero, List.setIfInBounds_toArray, List.set_cons_zero, List.set_cons_succ]
  refine anyT_take0 (i := 12) (v := ?_) rfl (by kernel_rfl) (by kernel_rfl) (by kernel_rfl) (by kernel_rfl) (by kernel_rfl) (fun _ _ _ h => h) hC (.inl ⟨by rfl, fun _ _ => ?_⟩) ?_
  rotate_left 1
  · go_simp
    try with_reducible rfl
  simp only [Act.put, List.getElem_toArray, List.getElem_cons_succ, List.getElem_cons_zero, List.setIfInBounds_toArray, List.set_cons_zero, List.set_cons_succ]
  refine anyT_takeC (i := 13) (v := ?_) rfl (by kernel_rfl) (by kernel_rfl) (by kernel_rfl) (by kernel_rfl) (by kernel_rfl) (by kernel_rfl) (fun _ _ _ h => h) hC (.inl ⟨by rfl, fun w hCw => ?_⟩) ?_
  rotate_left 1
  · dsimp only at hCw
    go_simp
    try with_reducible rfl
  simp only [Act.put, List.getElem_toArray, List.getElem_cons_succ, List.getElem_cons_zero, List.setIfInBounds_toArray, List.set_cons_zero, List.set_cons_succ]
  refine anyT_take0 (i := 14) (v := ?_) rfl (by kernel_rfl) (by kernel_rfl) (by kernel_rfl) (by kernel_rfl) (by kernel_rfl) (fun _ _ _ h => h) hC (.inl ⟨by rfl, fun _ _ => ?_⟩) ?_
  rotate_left 1
  · go_simp
    try with_reducible rfl
  simp only [Act.put, List.getElem_toArray, List.getElem_cons_succ, List.getElem_cons_zero, List.setIfInBounds_toArray, List.set_cons_zero, List.set_cons_succ]
  refine anyT_force (i := 15) rfl (by kernel_rfl) (by rfl) ?_
  go_simp
  refine (hroom.out _ (Keeps.refl (fun _ => False) w).drew).mono ?_
  rintro e w2 ⟨rfl, m2, rfl⟩
  have hk2 : Keeps (fun _ => False) w (w.drew.drewN m2) := (Keeps.refl (fun _ => False) w).drew.drewN m2
  refine ⟨fun _ => ⟨p0, p1⟩, ?_⟩
  have hC : (fun x : World => x.cell? ⟨g, 0, none⟩ = some (.int .i64 room) ∧ x.cell? ⟨g, 1, none⟩ = some (.int .i64 next)) (w.drew.drewN m2) := ⟨p0, p1⟩
  refine anyT_take0 (i := 16) (v := ?_) rfl (by kernel_rfl) (by kernel_rfl) (by kernel_rfl) (by kernel_rfl) (by kernel_rfl) (fun _ _ _ h => h) hC (.inl ⟨by rfl, fun _ _ => ?_⟩) ?_
  rotate_left 1
  · go_simp
    try with_reducible rfl
  simp only [Act.put, List.getElem_toArray, List.getElem_cons_succ, List.getElem_cons_zero, List.setIfInBounds_toArray, List.set_cons_zero, List.set_cons_succ]
  refine anyT_take0 (i := 17) (v := ?_) rfl (by kernel_rfl) (by kernel_rfl) (by kernel_rfl) (by kernel_rfl) (by kernel_rfl) (fun _ _ _ h => h) hC (.inl ⟨by rfl, fun _ _ => ?_⟩) ?_
  rotate_left 1
  · go_simp
    try with_reducible rfl
  simp only [Act.put, List.getElem_toArray, List.getElem_cons_succ, List.getElem_cons_zero, List.setIfInBounds_toArray, List.set_cons_zero, List.set_cons_succ]
  refine anyT_take0 (i := 18) (v := ?_) rfl (by kernel_rfl) (by kernel_rfl) (by kernel_rfl) (by kernel_rfl) (by kernel_rfl) (fun _ _ _ h => h) hC (.inl ⟨by rfl, fun _ _ => ?_⟩) ?_
  rotate_left 1
  · go_simp
    try with_reducible rfl
  simp only [Act.put, List.getElem_toArray, List.getElem_cons_succ, List.getElem_cons_zero, List.setIfInBounds_toArray, List.set_cons_zero, List.set_cons_succ]
  refine anyT_take0 (i := 19) (v := ?_) rfl (by kernel_rfl) (by kernel_rfl) (by kernel_rfl) (by kernel_rfl) (by kernel_rfl) (fun _ _ _ h => h) hC (.inl ⟨by rfl, fun _ _ => ?_⟩) ?_
  rotate_left 1
  · go_simp
    try with_reducible rfl
  simp only [Act.put, List.getElem_toArray, List.getElem_cons_succ, List.getElem_cons_zero, List.setIfInBounds_toArray, List.set_cons_zero, List.set_cons_succ]
  refine (show anyT _ _ _ _ _ _ 0 _ _ _ from ⟨by kernel_rfl, ?_⟩)
  have hr2 := hr.keeps hk2 (fun h => h)
  clear p0 p1 hC hroom
  generalize w.drew.drewN m2 = W2 at *
  go_wp2_with fail
  refine (clone_any _ PD W2 _ (BAt.keeps HPC.out hk2 (fun _ _ h => h)) (by have := HPL.out; omega)).mono ?_
  rintro e W3 ⟨v3, rfl, ho3, hk3⟩
  obtain ⟨a3, c3, rfl, -, -⟩ := BOwn.slice ho3
  have hk23 := hk2.trans hk3 (fun _ _ h => h)
  have hr3 := hr2.keeps hk3 (fun h => h)
  have hd3 : BAt W3 (fun b => X b ∧ b < W3.heap.size) (.slice a3 PD.length c3) PD := (ho3.bat.mono fun b hb => hX b (by have := (ho3.block b hb).1; have := hk2.size; omega)).ltHeap
  have hkX := hk23.alloc (.cells #[.int .i64 low, .slice a3 PD.length c3] 68)
  have hrX := hr3.alloc (.cells #[.int .i64 low, .slice a3 PD.length c3] 68)
  have hrp := RowAt.new W3 #[.int .i64 low, .slice a3 PD.length c3] 68
  have hdX := hd3.keepX ((Keeps.refl (fun _ => False) W3).alloc (.cells #[.int .i64 low, .slice a3 PD.length c3] 68)) (fun _ _ h => h)
  generalize hwx : W3.alloc (.cells #[.int .i64 low, .slice a3 PD.length c3] 68) = WX at hkX hrX hrp hdX
  obtain ⟨gp, hgp⟩ : ∃ gp, W3.heap.size = gp := ⟨_, rfl⟩
  rw [hgp] at hrp
  obtain ⟨x0, x1⟩ := hrp.two
  go_wp2_with fail
  refine (with_any X g (low, PD) (.slice a3 PD.length c3) (.slice ba l.length bc) pv room next L WX hrX (hL.keeps hkX (fun _ _ h => h)) hdX (fun b hb => hX b (by have := hkX.size; omega)) hbp HB.out hl).mono ?_
  rintro e W4 ⟨v4, rfl, hT4, hk4⟩
  rw [HM.out] at hT4
  have hr4 := hrX.keeps hk4 (fun h => h)
  have hk04 := hkX.trans hk4 (fun _ _ h => h)
  clear x0 x1 hrp hdX hrX hkX hd3 hr3 hk23 ho3 hk3 hr2 hwx hk2
  obtain ⟨mb, mo, mc, dv4, rfl, hd4, m0, m1⟩ := hT4.at 0 (by simp)
  simp only [List.getElem_cons_zero, Nat.zero_mul, Nat.add_zero] at hd4 m0 m1
  obtain ⟨d4a, d4c, rfl, -, -⟩ := hd4.slice
  obtain ⟨o3, ho3, hT5⟩ := hT4.tail
  have hml : ((a, d) :: rest).length = rest.length + 1 := List.length_cons
  have hlr : (1 : Int) ≤ ((rest.length : Int) + 1) := by omega
  obtain ⟨_, ec, eq4, hmc, -⟩ := hT4.slice
  simp only [Value.slice.injEq, true_and] at eq4
  obtain ⟨-, rfl⟩ := eq4
  rw [hml] at hmc
  have hmc1 : 1 ≤ mc := by omega
  have hmc2 : (1 : Int) ≤ (mc : Int) := by omega
  have p1 : W4.cell? ⟨g, 1, none⟩ = some (.int .i64 next) := hr4.cell 1
  have p2 : W4.cell? ⟨g, 2, none⟩ = some (.slice ba l.length bc) := hr4.cell 2
  have p3 : W4.cell? ⟨g, 3, none⟩ = some pv := hr4.cell 3
  have f1 := hr4.frozen 1
  have f2 := hr4.frozen 2
  have f3 := hr4.frozen 3
  simp only [List.length_cons] at hT4
  have hoB4 := ho.keeps hk04 (fun _ _ h => h)
  have hs04 := hk04.size
  have HFR := Lib.hid hfr
  have HO := Lib.hid hoB4
  have HXb := Lib.hid hXb
  have HXg := Lib.hid hXg
  clear hfr hoB4 hXb hXg ho hX hL hd HPC HM HB HPL hbd
  by_cases hax : a = next
  · obtain ⟨rfl, rfl⟩ : front = d ∧ R = rest := by
      rcases HFR.out with ⟨-, h, h'⟩ | ⟨h, -, -⟩
      · exact ⟨h, h'⟩
      · exact absurd hax h
    subst hax
    have hba : (a == a) = true := by simp
    by_cases h64 : (64 : Int) < (R.length : Int)
    · go_wp2
      go_quiet (fail)
      revert nq
      intro n1
      go_wp2
      go_quiet (fail)
      go_wp2
      go_ret2
      unfold Put1R
      exact .inl ⟨by omega, rfl, hk04.drewN _⟩
    · go_wp2
      go_quiet (fail)
      revert nq
      intro n1
      go_wp2
      go_quiet (fail)
      have hk5 : Keeps (· = g) W4 ((W4.drewN (n1 + nq)).setCell ⟨g, 3, none⟩ (.slice (some ⟨mb, o3, none⟩) R.length (mc - 1))) := ((Keeps.refl (· = g) W4).drewN _).setCell _ _ (.inl rfl)
      have hr5 := (hr4.drewN (n1 + nq)).set 3 (.slice (some ⟨mb, o3, none⟩) R.length (mc - 1))
      have hd5 := hd4.keepX hk5 (fun b hb => HXg.out b hb)
      have hT6 := hT5.keeps hk5 (fun b hb => HXg.out b hb)
      have ho5 := HO.out.keeps hk5 (fun b hb e => by subst e; exact hgb hb)
      have hs5 := hk5.size
      obtain ⟨W5, hW5⟩ : ∃ W5, (W4.drewN (n1 + nq)).setCell ⟨g, 3, none⟩ (.slice (some ⟨mb, o3, none⟩) R.length (mc - 1)) = W5 := ⟨_, rfl⟩
      rw [hW5] at hk5 hr5 hd5 hT6 ho5 hs5
      obtain ⟨v6, w6, hrun, ho6, hk6, hp6⟩ := run_append_bytes (ty := 30) ho5 hd5.readX (by omega) (by omega)
      obtain ⟨M, hM⟩ : ∃ M, l ++ front = M := ⟨_, rfl⟩
      rw [hM] at ho6
      obtain ⟨a6, c6, rfl, -, -⟩ := BOwn.slice ho6
      rw [← hW5] at hrun
      have HR := Lib.hid hrun
      have hr6 := hr5.keeps hk6 hgb
      have p1' : w6.cell? ⟨g, 1, none⟩ = some (.int .i64 a) := hr6.cell 1
      have p2' : w6.cell? ⟨g, 2, none⟩ = some (.slice ba l.length bc) := hr6.cell 2
      have f1' := hr6.frozen 1
      have f2' := hr6.frozen 2
      have q8 := i64_fit (a + (front.length : Int)) (by omega) (by omega)
      have hr7 : RowAt ((w6.setCell ⟨g, 2, none⟩ (.slice a6 M.length c6)).setCell ⟨g, 1, none⟩ (.int .i64 (a + (front.length : Int)))) g #[.int .i64 room, .int .i64 (a + (front.length : Int)), .slice a6 M.length c6, .slice (some ⟨mb, o3, none⟩) R.length (mc - 1)] 66 := ((hr6.set 2 _).set 1 _).eq rfl
      have hk67 := ((Keeps.refl (· = g) w6).setCell ⟨g, 2, none⟩ (.slice a6 M.length c6) (.inl rfl)).setCell ⟨g, 1, none⟩ (.int .i64 (a + (front.length : Int))) (.inl rfl)
      have hT6' := hT6.mono (Y := fun b => X b ∧ b < W5.heap.size) (fun b h h' => ⟨h, h'⟩)
      have hT7 := ((hT6'.keeps hk6 (fun b hb e => HXb.out b hb.1 e)).keeps hk67 (fun b hb => HXg.out b hb.1)).mono (Y := OffG g (.slice a6 M.length c6) Z) (fun b hb _ => ⟨HXg.out b hb.1, fun e => by
        rcases hp6 with h | ⟨b', h, h'⟩
        · exact HXb.out b hb.1 (h ▸ e)
        · rw [h] at e
          have : b' = b := Option.some.inj e
          have := hb.2
          omega, hXz.out b hb.1⟩)
      have hg6 : (Value.slice a6 M.length c6).ownBlock ≠ some g := ho6.apart hr6 (by decide)
      have ho7 := ho6.keeps hk67 (fun b hb e => by subst e; exact hg6 hb)
      have hkF := (((hk04.mono (S' := fun b => b = g ∨ (Value.slice ba l.length bc).ownBlock = some b) (fun _ _ h => h.elim)).trans hk5 (fun _ _ h => .inl h)).trans hk6 (fun _ _ h => .inr h)).trans hk67 (fun _ _ h => .inl h)
      have hpl : (Value.slice a6 M.length c6).ownBlock = (Value.slice ba l.length bc).ownBlock ∨ ∃ b, (Value.slice a6 M.length c6).ownBlock = some b ∧ w.heap.size ≤ b := hp6.imp id (fun ⟨b, h1, h2⟩ => ⟨b, h1, by omega⟩)
      have HMM := Lib.hid hM
      have hR64 : R.length ≤ 64 := by omega
      clear hrun hW5 hM hp6 hT6' hT6 hk6 hk67 hr6 hg6 ho6 ho5 hd5 hr5 hk5 hT5 hT4
      go_wp2_with (at_builtin; refine Lib.wpList_append_run _ rfl _ _ _ _ rfl _ _ rfl rfl _ _ HR.out ?_)
      go_ret2
      unfold Put1R
      rw [HMM.out]
      exact .inr ⟨hR64, rfl, _, _, hr7, ho7, hT7, hkF, hpl⟩
  · obtain ⟨rfl, rfl⟩ : front = [] ∧ R = (a, d) :: rest := by
      rcases HFR.out with ⟨h, -, -⟩ | ⟨-, h, h'⟩
      · exact absurd h hax
      · exact ⟨h, h'⟩
    have hba : (a == next) = false := beq_eq_false_iff_ne.2 hax
    by_cases h64 : (64 : Int) < (rest.length : Int) + 1
    · go_wp2
      go_quiet (fail)
      go_wp2
      go_ret2
      unfold Put1R
      exact .inl ⟨by simp only [List.length_cons]; omega, rfl, hk04.drewN _⟩
    · obtain ⟨i9, hi9, hz9, hs9, -⟩ := info_parts info_u8
      have hap : ∀ (w : World), (Builtin.append_ #[30, 30] 30 #[.slice ba l.length bc, .slice none 0 0]).run Try.prog w = .ok (.slice ba l.length bc) w := fun w =>
        run_append_nothing (P := Try.prog) w 30 30 30 5 i9 Try.underlying30 hi9 ba l.length bc hbc (.slice none 0 0) (SAt.src (p := fun _ => True) Try.underlying30 (by rw [hs9]; exact SAt.nil w _ 1) (by simp) (by omega))
      have HAP := Lib.hid hap
      clear hap
      go_wp2
      go_quiet (fail)
      have hk5 := ((((Keeps.refl (· = g) W4).drewN nq).setCell ⟨g, 3, none⟩ (.slice (some ⟨mb, mo, none⟩) (rest.length + 1) mc) (.inl rfl)).setCell ⟨g, 2, none⟩ (.slice ba l.length bc) (.inl rfl)).setCell ⟨g, 1, none⟩ (.int .i64 next) (.inl rfl)
      have hr5 := (((hr4.drewN nq).set 3 (.slice (some ⟨mb, mo, none⟩) (rest.length + 1) mc)).set 2 (.slice ba l.length bc)).set 1 (.int .i64 next)
      have hT6 := (hT4.keeps hk5 (fun b hb => HXg.out b hb)).mono (Y := OffG g (.slice ba l.length bc) Z) (fun b hb _ => ⟨HXg.out b hb, HXb.out b hb, hXz.out b hb⟩)
      have ho5 := HO.out.keeps hk5 (fun b hb e => by subst e; exact hgb hb)
      have hkF := (hk04.mono (S' := fun b => b = g ∨ (Value.slice ba l.length bc).ownBlock = some b) (fun _ _ h => h.elim)).trans hk5 (fun _ _ h => .inl h)
      go_wp2_with (at_builtin; refine Lib.wpList_append_run _ rfl _ _ _ _ rfl _ _ rfl rfl _ _ (HAP.out _) ?_)
      go_ret2
      unfold Put1R
      refine .inr ⟨by simp only [List.length_cons]; omega, rfl, .slice ba l.length bc, .slice (some ⟨mb, mo, none⟩) (rest.length + 1) mc, hr5.eq (by simp), by rw [List.append_nil]; exact ho5, hT6, hkF, .inl rfl⟩
end Go.Proofs.Ytiodmhcmciohnaa

/-! The plain law of merging: parts of one stream stay parts of it. -/
namespace Go.Proofs.Ytiodmhcmciohnaa
set_option linter.unusedVariables false
set_option linter.unusedSimpArgs false
open Go.RowKit

/-- A part of the stream, from a place x on. -/
structure Of (all : List UInt8) (x : Int) (q : Pt) : Prop where
  low : x ≤ q.1
  ne : q.2 ≠ []
  pre : q.2 <+: all.drop q.1.toNat
structure Good (all : List UInt8) (x : Int) (L : List Pt) : Prop where
  sep : L.Pairwise (fun a b => endF a < b.1)
  of : ∀ q ∈ L, Of all x q

theorem pre_sub {all d : List UInt8} {a : Nat} (h : d <+: all.drop a) (j n : Nat) (hj : j ≤ d.length) : (d.drop j).take n <+: all.drop (a + j) := by
  obtain ⟨r, hr⟩ := h
  rw [← List.drop_drop, ← hr, List.drop_append_of_le_length hj]
  exact (List.take_prefix n _).trans (List.prefix_append _ _)
theorem pre_ext {all d e : List UInt8} {a b m : Nat} (h : d <+: all.drop a) (h' : e <+: all.drop b) (hm : b + m = a + d.length) (hme : m ≤ e.length) : d ++ e.drop m <+: all.drop a := by
  obtain ⟨r, hr⟩ := h
  obtain ⟨r', hr'⟩ := h'
  have h1 : (all.drop a).drop d.length = r := by rw [← hr, List.drop_left]
  have h2 : (all.drop b).drop m = e.drop m ++ r' := by rw [← hr', List.drop_append_of_le_length hme]
  rw [List.drop_drop] at h1 h2
  rw [hm] at h2
  refine ⟨r', ?_⟩
  rw [← hr, List.append_assoc, ← h2, h1]

theorem addF_good {all : List UInt8} {x : Int} {L : List Pt} {q : Pt} (hx : 0 ≤ x) (h : Good all x L) (hq : x ≤ q.1) (hp : q.2 <+: all.drop q.1.toNat) : Good all x (addF L q) := by
  rcases List.eq_nil_or_concat L with rfl | ⟨K, l, rfl⟩
  · unfold addF
    simp only [List.getLast?_nil]
    split
    · exact ⟨List.Pairwise.nil, fun _ h => by cases h⟩
    next h0 =>
      refine ⟨List.pairwise_singleton _ _, fun r hr => ?_⟩
      obtain rfl : r = q := by simpa using hr
      exact ⟨hq, by simpa using h0, hp⟩
  · simp only [List.concat_eq_append] at *
    rw [addF_last]
    obtain ⟨hs, ho⟩ := h
    have hl := ho l (by simp)
    rw [List.pairwise_append] at hs
    obtain ⟨hs1, -, hs3⟩ := hs
    split
    next hle =>
      split
      next hm =>
        refine ⟨List.pairwise_append.2 ⟨hs1, List.pairwise_singleton _ _, fun a ha b hb => ?_⟩, fun r hr => ?_⟩
        · obtain rfl := List.mem_singleton.1 hb
          exact hs3 a ha l (by simp)
        · rcases List.mem_append.1 hr with hr | hr
          · exact ho r (List.mem_append_left _ hr)
          · obtain rfl := List.mem_singleton.1 hr
            refine ⟨hl.low, by simp [hl.ne], ?_⟩
            have h1 := hl.low
            refine pre_ext hl.pre hp ?_ (by omega)
            unfold endF at *
            omega
      · exact ⟨List.pairwise_append.2 ⟨hs1, List.pairwise_singleton _ _, hs3⟩, ho⟩
    next hgt =>
      split
      · exact ⟨List.pairwise_append.2 ⟨hs1, List.pairwise_singleton _ _, hs3⟩, ho⟩
      next h0 =>
        refine ⟨List.pairwise_append.2 ⟨List.pairwise_append.2 ⟨hs1, List.pairwise_singleton _ _, hs3⟩, List.pairwise_singleton _ _, fun a ha b hb => ?_⟩, fun r hr => ?_⟩
        · obtain rfl := List.mem_singleton.1 hb
          have hlq : endF l < b.1 := by omega
          rcases List.mem_append.1 ha with ha | ha
          · have h1 := hs3 a ha l (by simp)
            unfold endF at *
            omega
          · obtain rfl := List.mem_singleton.1 ha
            exact hlq
        · rcases List.mem_append.1 hr with hr | hr
          · exact ho r hr
          · obtain rfl := List.mem_singleton.1 hr
            exact ⟨hq, by simpa using h0, hp⟩
theorem addF_head {L : List Pt} {q : Pt} {a : Int} {d : List UInt8} {r : List Pt} (h : L = (a, d) :: r) : ∃ d' r', addF L q = (a, d') :: r' := by
  rcases List.eq_nil_or_concat L with h0 | ⟨K, l, hc⟩
  · rw [h0] at h; cases h
  · rw [List.concat_eq_append] at hc
    rw [hc, addF_last]
    rw [hc] at h
    cases K with
    | nil =>
      simp only [List.nil_append, List.cons.injEq] at h
      obtain ⟨rfl, rfl⟩ := h
      split
      · split
        · exact ⟨_, _, rfl⟩
        · exact ⟨_, _, rfl⟩
      · split
        · exact ⟨_, _, rfl⟩
        · exact ⟨_, _, rfl⟩
    | cons k K =>
      simp only [List.cons_append, List.cons.injEq] at h
      obtain ⟨rfl, rfl⟩ := h
      split
      · split
        · exact ⟨_, _, rfl⟩
        · exact ⟨_, _, rfl⟩
      · split
        · exact ⟨_, _, rfl⟩
        · exact ⟨_, _, rfl⟩
theorem addF_some {L : List Pt} {q : Pt} (h : L ≠ [] ∨ q.2 ≠ []) : addF L q ≠ [] := by
  cases L with
  | nil =>
    have h0 : q.2 ≠ [] := h.resolve_left (fun h => h rfl)
    unfold addF
    simp only [List.getLast?_nil]
    rw [if_neg (by simpa using h0)]
    simp
  | cons k K =>
    obtain ⟨d', r', e⟩ := addF_head (q := q) (L := k :: K) (a := k.1) (d := k.2) (r := K) rfl
    rw [e]
    simp

/-- What holds while one more part is merged. -/
structure FoldG (all : List UInt8) (x : Int) (p : Pt) (st : List Pt × Int) : Prop where
  good : Good all x st.1
  low : p.1 ≤ st.2
theorem sub_pre {all : List UInt8} {x : Int} {p : Pt} (hx : 0 ≤ x) (hp : Of all x p) {a : Int} (h1 : p.1 ≤ a) (h2 : a < endF p) (n : Nat) : (p.2.drop (a - p.1).toNat).take n <+: all.drop a.toNat := by
  have := hp.low
  have := pre_sub hp.pre (a - p.1).toNat n (by unfold endF at h2; omega)
  rwa [show p.1.toNat + (a - p.1).toNat = a.toNat by omega] at this
theorem stepF_g {all : List UInt8} {x : Int} {p q : Pt} {st : List Pt × Int} (hx : 0 ≤ x) (hp : Of all x p) (hq : Of all x q) (h : FoldG all x p st) : FoldG all x p (stepF p st q) := by
  unfold stepF
  refine ⟨?_, by have := h.low; show p.1 ≤ max _ _; omega⟩
  refine addF_good hx ?_ hq.low hq.pre
  split
  next hc => exact addF_good hx h.good (by have := h.low; have := hp.low; show x ≤ st.2; omega) (sub_pre hx hp h.low hc.2 _)
  · exact h.good
theorem fold_g {all : List UInt8} {x : Int} {p : Pt} (hx : 0 ≤ x) (hp : Of all x p) : ∀ (L : List Pt) (st : List Pt × Int), (∀ q ∈ L, Of all x q) → FoldG all x p st → FoldG all x p (L.foldl (stepF p) st)
  | [], st, _, h => h
  | q :: L, st, hL, h => fold_g hx hp L _ (fun r hr => hL r (List.mem_cons_of_mem _ hr)) (stepF_g hx hp (hL q List.mem_cons_self) h)
theorem mergeF_good {all : List UInt8} {x : Int} {p : Pt} {L : List Pt} (hx : 0 ≤ x) (hp : Of all x p) (hL : ∀ q ∈ L, Of all x q) : Good all x (mergeF L p) := by
  have h := fold_g hx hp L ([], p.1) hL ⟨⟨List.Pairwise.nil, fun _ h => by cases h⟩, Int.le_refl _⟩
  unfold mergeF endsF
  split
  next hc =>
    have h1 := sub_pre hx hp h.low hc p.2.length
    rw [List.take_of_length_le (by rw [List.length_drop]; omega)] at h1
    exact addF_good hx h.good (by have := h.low; have := hp.low; show x ≤ _; omega) h1
  · exact h.good
theorem fold_head {p : Pt} {a : Int} : ∀ (L : List Pt) (st : List Pt × Int), (∃ d r, st.1 = (a, d) :: r) → ∃ d r, (L.foldl (stepF p) st).1 = (a, d) :: r
  | [], st, h => h
  | q :: L, st, h => fold_head L _ (by
    obtain ⟨d, r, e⟩ := h
    unfold stepF
    dsimp only
    split
    · obtain ⟨d1, r1, e1⟩ := addF_head (q := (st.2, (p.2.drop (st.2 - p.1).toNat).take ((min q.1 (endF p) - p.1).toNat - (st.2 - p.1).toNat))) e
      exact addF_head e1
    · exact addF_head e)
theorem endsF_head {p : Pt} {a : Int} {st : List Pt × Int} (h : ∃ d r, st.1 = (a, d) :: r) : ∃ d r, endsF p st = (a, d) :: r := by
  obtain ⟨d, r, e⟩ := h
  unfold endsF
  split
  · exact addF_head e
  · exact ⟨d, r, e⟩
/-- Something comes of it. -/
theorem mergeF_some {all : List UInt8} {x : Int} {p : Pt} {L : List Pt} (hp : p.2 ≠ []) (hL : ∀ q ∈ L, Of all x q) : ∃ a d r, mergeF L p = (a, d) :: r := by
  cases L with
  | nil =>
    have hpl : 0 < p.2.length := List.length_pos_iff.2 hp
    have e0 : mergeF [] p = if p.1 < endF p then addF [] (p.1, p.2.drop (p.1 - p.1).toNat) else [] := rfl
    rw [e0, if_pos (by unfold endF; omega)]
    have h : addF [] (p.1, p.2.drop (p.1 - p.1).toNat) ≠ [] := addF_some (.inr (by simpa using hp))
    obtain ⟨k, K, e⟩ := List.exists_cons_of_ne_nil h
    exact ⟨k.1, k.2, K, e⟩
  | cons q L =>
    have h : (stepF p ([], p.1) q).1 ≠ [] := addF_some (.inr (hL q List.mem_cons_self).ne)
    obtain ⟨k, K, e⟩ := List.exists_cons_of_ne_nil h
    obtain ⟨d1, r1, e1⟩ := fold_head (p := p) (a := k.1) L (stepF p ([], p.1) q) ⟨k.2, K, e⟩
    obtain ⟨d2, r2, e2⟩ := endsF_head (p := p) (a := k.1) ⟨d1, r1, e1⟩
    exact ⟨k.1, d2, r2, e2⟩
/-- Where the new part comes ahead of all others, it begins what comes of it. -/
theorem mergeF_first {p : Pt} {L : List Pt} (hp : p.2 ≠ []) (hL : ∀ q ∈ L, p.1 < q.1) : ∃ d r, mergeF L p = (p.1, d) :: r := by
  have hpl : 0 < p.2.length := List.length_pos_iff.2 hp
  have one : ∀ d : List UInt8, d ≠ [] → addF [] (p.1, d) = [(p.1, d)] := fun d hd => by
    unfold addF
    simp only [List.getLast?_nil]
    rw [if_neg (by simpa using hd)]
    rfl
  cases L with
  | nil =>
    have e0 : mergeF [] p = if p.1 < endF p then addF [] (p.1, p.2.drop (p.1 - p.1).toNat) else [] := rfl
    rw [e0, if_pos (by unfold endF; omega), one _ (by simpa using hp)]
    exact ⟨_, _, rfl⟩
  | cons q L =>
    have hq := hL q List.mem_cons_self
    refine endsF_head (fold_head L _ ?_)
    unfold stepF
    dsimp only
    rw [if_pos ⟨hq, by unfold endF; omega⟩, one _ (by
      intro h
      have := congrArg List.length h
      rw [List.length_take, List.length_drop, List.length_nil] at this
      unfold endF at this
      omega)]
    exact addF_head rfl
end Go.Proofs.Ytiodmhcmciohnaa

/-! (*Receiver).Read in general; slices.Delete of the first bytes. -/
namespace Go.Proofs.Ytiodmhcmciohnaa
set_option linter.unusedVariables false
set_option linter.unusedSimpArgs false
open Go.RowKit

set_option maxRecDepth 100000 in
set_option maxHeartbeats 1000000 in
theorem del_any (g off c B n k : Nat) (l : List UInt8) (w : World) (hB : BOwn w B (.slice (some ⟨g, off, none⟩) l.length c) l) (h0 : 0 < n) (hk0 : 0 < k) (hnk : l.length = n + k) (hl : l.length ≤ 1000000) :
    Calls Try.prog 34 #[.slice (some ⟨g, off, none⟩) l.length c, .int .i64 0, .int .i64 n] w fun e w' => e = .returned (.slice (some ⟨g, off, none⟩) k c) ∧ Keeps (· = g) w w' ∧ BOwn w' B (.slice (some ⟨g, off, none⟩) k c) (l.drop n) := by
  obtain ⟨_, _, e, hlc, hcm⟩ := BOwn.slice hB
  simp only [Value.slice.injEq, true_and] at e
  obtain ⟨-, rfl⟩ := e
  simp only [maxLen] at hcm
  have hDl : (l.drop n).length = k := by rw [List.length_drop]; omega
  obtain ⟨o2, e2, hdrop, -⟩ := BAt.cut hB.bat n (by omega)
  have hcn : ¬ c = n := by omega
  rw [if_neg hcn] at e2
  simp only [Option.some.injEq, Addr.mk.injEq, and_true, true_and] at e2
  subst e2
  obtain ⟨D, hD⟩ : ∃ D, l.drop n = D := ⟨_, rfl⟩
  rw [hD] at hdrop hDl ⊢
  have hlk : l.length - n = k := by omega
  have hln : l.length - k = n := by omega
  rw [hlk] at hdrop
  have g1 : (0 : Int) < (n : Int) := by omega
  have g2 : (n : Int) ≤ (l.length : Int) := by omega
  have g2' : (l.length : Int) ≤ (c : Int) := by omega
  have g3 : ¬ (0 : Int) = (n : Int) := by omega
  have g4 : ((0 : Int) == (n : Int)) = false := beq_eq_false_iff_ne.2 (by omega)
  have g5 : (k : Int) ≤ (l.length : Int) := by omega
  have hck : ¬ c = k := by omega
  have HNK := Lib.hid hnk
  clear hD hnk
  go_enter Try.func34, Try.ntmps34
  go_wp2
  refine region_draws_tail 6 (by kernel_rfl) (by kernel_rfl) ?_
  simp only [List.take_succ_cons, List.take_zero, List.drop_succ_cons, List.drop_zero]
  repeat (go_big_quiet_step (fail))
  refine wpQuiet_nil ?_
  rintro _ ⟨nq, rfl⟩
  have hkq : Keeps (fun _ => False) w (w.drewN nq) := (Keeps.refl _ _).drewN nq
  have hBq := hB.keeps hkq (fun _ _ h => h)
  have hDq := hdrop.keeps hkq (fun _ _ h => h)
  obtain ⟨i, hi, hz, hs, hby⟩ := info_parts info_u8
  have hkk : Keeps (fun _ => False) w (w.drewN nq) := hkq
  obtain ⟨W, hW⟩ : ∃ W, w.drewN nq = W := ⟨_, rfl⟩
  rw [hW] at hkq hBq hDq ⊢
  have hB0 := hBq
  obtain ⟨b1, b0, b2⟩ := hB0
  rcases b2 with ⟨e, -, -⟩ | ⟨g', off', c', cs, hb, e, hlc', hcm', hr, h5, h6⟩
  · simp at e
  · simp only [Value.slice.injEq, Option.some.injEq, Addr.mk.injEq, and_true] at e
    obtain ⟨⟨rfl, rfl⟩, -, rfl⟩ := e
    obtain ⟨cs1, r1, r2, r3, r4⟩ := RowAt.setCells (bcells D) off W cs hr (by rw [bcells_length, hDl]; omega)
    have hap : (Builtin.append_ #[30, 30] 30 #[.slice (some ⟨g, off, none⟩) 0 c, .slice (some ⟨g, off + n, none⟩) k (c - n)]).run Try.prog W = .ok (.slice (some ⟨g, off, none⟩) k c) (W.setCells g off (bcells D)) := by
      have hsrc := SAt.src (tx := 30) Try.underlying30 hDq (bcells_one D) (by omega)
      have h := run_append_room_src (P := Try.prog) W 30 30 30 5 i Try.underlying30 hi g off 0 c _ D.length (bcells D) (by rw [hs]; exact hsrc) (by omega)
        (fun j hj => by rw [hr.cell, Array.getElem?_eq_getElem (by rw [bcells_length] at hj; omega)]; rfl) (fun j _ => hr.frozen _)
      simp only [Nat.zero_add, Nat.zero_mul, Nat.add_zero, hDl] at h
      exact h
    have hks1 : Keeps (· = g) W (W.setCells g off (bcells D)) := Keeps.setCells (S := (· = g)) (.inl rfl) _ _ _ (Keeps.refl _ _)
    obtain ⟨W1, hW1⟩ : ∃ W1, W.setCells g off (bcells D) = W1 := ⟨_, rfl⟩
    rw [hW1] at hap r1 hks1
    obtain ⟨cs2, s1, s2, s3, s4⟩ := RowAt.setCells (List.replicate n (Value.int .u8 0)) (off + k) W1 cs1 r1 (by rw [List.length_replicate, r2]; omega)
    have hcl : (Builtin.clear_ #[30] 0 #[.slice (some ⟨g, off + k, none⟩) n (c - k)]).run Try.prog W1 = .ok (.tuple #[]) (W1.setCells g (off + k) (List.replicate n (.int .u8 0))) :=
      Lib.run_clear_slice (P := Try.prog) W1 30 5 0 (.int .u8 0) Try.underlying30 (fun w => by simp [zeroValue, typeInfo, hi, hz]) rfl rfl g (off + k) n (c - k) h0
        (fun j hj => by rw [r1.cell, Array.getElem?_eq_getElem (by omega)]; rfl) (fun j _ => r1.frozen _)
    have hks2 : Keeps (· = g) W1 (W1.setCells g (off + k) (List.replicate n (.int .u8 0))) := Keeps.setCells (S := (· = g)) (.inl rfl) _ _ _ (Keeps.refl _ _)
    have HAP := Lib.hid hap
    have HLN := Lib.hid hln
    have hres : BOwn (W1.setCells g (off + k) (List.replicate n (.int .u8 0))) B (.slice (some ⟨g, off, none⟩) k c) D :=
      ⟨by rw [bcells_length, Nat.mul_one], bcells_one D, .inr ⟨g, off, c, cs2, hb, by rw [hDl], by rw [hDl]; omega, hcm', s1, by rw [s2, r2]; exact h5, fun j hj => by
        rw [s4 _ (.inl (by omega)), r3 j (by rw [bcells_length]; omega)]⟩⟩
    have hkF := ((hkk.mono (S' := (· = g)) (fun _ _ h => h.elim)).trans (hW ▸ hks1) (fun _ _ h => h)).trans hks2 (fun _ _ h => h)
    have HRES := Lib.hid hres
    have HKF := Lib.hid hkF
    clear hap hW hW1 hres hkF hks1 hks2 s1 s2 s3 s4 r1 r2 r3 r4 hr h5 h6 b1 b0 hBq hDq hkq hkk hdrop hB hlc'
    go_wp2_with (at_builtin; refine Lib.wpList_append_run _ rfl _ _ _ _ rfl _ _ rfl rfl _ _ HAP.out ?_)
    go_ret
    exact ⟨rfl, HKF.out, HRES.out⟩

/-- Delete of the first bytes, however many. -/
theorem delete_any (B n c : Nat) (a : Option Addr) (l : List UInt8) (w : World) (hB : BOwn w B (.slice a l.length c) l) (hn : n ≤ l.length) (hl : l.length ≤ 1000000) :
    Calls Try.prog 34 #[.slice a l.length c, .int .i64 0, .int .i64 n] w fun e w' => e = .returned (.slice a (l.length - n) c) ∧ Keeps (fun b => (Value.slice a l.length c).ownBlock = some b) w w' ∧ BOwn w' B (.slice a (l.length - n) c) (l.drop n) := by
  rcases Nat.eq_zero_or_pos n with h0 | h0
  · subst h0
    rw [Nat.sub_zero, List.drop_zero]
    obtain ⟨_, _, e, hlc, hcm⟩ := BOwn.slice hB
    simp only [Value.slice.injEq, true_and] at e
    obtain ⟨-, rfl⟩ := e
    simp only [maxLen] at hcm
    have g2' : (l.length : Int) ≤ (c : Int) := by omega
    go_enter Try.func34, Try.ntmps34
    go_wp2
    go_ret
    exact ⟨rfl, Keeps.refl _ _, hB⟩
  · obtain ⟨g, off, c', e, -, -, -⟩ := BOwn.place hB (by omega)
    simp only [Value.slice.injEq, true_and] at e
    obtain ⟨rfl, rfl⟩ := e
    by_cases hk : l.length = n
    · have h := delall_any g off c B l w hB (by omega) hl
      rw [hk, Nat.sub_self, List.drop_eq_nil_of_le (by omega)]
      rw [hk] at h
      exact h.mono fun e w' ⟨h1, h2, h3⟩ => ⟨h1, h2.mono (fun b _ e => by subst e; rfl), h3⟩
    · exact (del_any g off c B n (l.length - n) l w hB h0 (by omega) (by omega) hl).mono fun e w' ⟨h1, h2, h3⟩ => ⟨h1, h2.mono (fun b _ e => by subst e; rfl), h3⟩

set_option maxRecDepth 100000 in
set_option maxHeartbeats 1000000 in
theorem read_any (g B m : Nat) (room next n : Int) (bv pv : Value) (l : List UInt8) (w : World) (hr : RowAt w g #[.int .i64 room, .int .i64 next, bv, pv] 66) (hB : BOwn w B bv l) (hl : l.length ≤ 1000000) (hn0 : 0 ≤ n) (hm : (m : Int) = if (l.length : Int) < n then (l.length : Int) else n) :
    Calls Try.prog 14 #[.pointer (some ⟨g, 0, none⟩), .int .i64 n] w fun e w' => ∃ v, e = .returned (.tuple #[v, .int .i64 0]) ∧ BOwn w' w.heap.size v (l.take m) ∧ Keeps (fun b => b = g ∨ bv.ownBlock = some b) w w' ∧
      ∃ bv', RowAt w' g #[.int .i64 room, .int .i64 next, bv', pv] 66 ∧ BOwn w' B bv' (l.drop m) ∧ bv'.ownBlock = bv.ownBlock := by
  obtain ⟨a, c, rfl, hlc, hcm⟩ := BOwn.slice hB
  simp only [maxLen] at hcm
  have hml : m ≤ l.length := by split at hm <;> omega
  have hgb : (Value.slice a l.length c).ownBlock ≠ some g := hB.apart hr (by decide)
  have p2 : w.cell? ⟨g, 2, none⟩ = some (.slice a l.length c) := hr.cell 2
  have hn0' : ¬ n < 0 := by omega
  have hmn : (if (l.length : Int) < n then (l.length : Int) else n) = (m : Int) := hm.symm
  have g2 : (m : Int) ≤ (c : Int) := by omega
  have htk := BAt.take hB.bat m hml
  obtain ⟨T, hT⟩ : ∃ T, l.take m = T := ⟨_, rfl⟩
  have hTl : T.length = m := by rw [← hT, List.length_take]; omega
  rw [hT] at htk ⊢
  clear hT hm
  go_enter Try.func14, Try.ntmps14
  go_wp2_with fail
  refine (clone_any _ T w _ htk (by omega)).mono ?_
  rintro e w2 ⟨v2, rfl, ho2, hk2⟩
  obtain ⟨a2, c2, rfl, -, -⟩ := BOwn.slice ho2
  have hr2 := hr.keeps hk2 (fun h => h)
  have hB2 := hB.keeps hk2 (fun _ _ h => h)
  have p2' := hk2.cell p2 (fun h => h)
  go_wp2_with fail
  refine (delete_any B m c a l w2 hB2 hml hl).mono ?_
  rintro e w3 ⟨rfl, hk3, ho3⟩
  have hr3 := hr2.keeps hk3 hgb
  have f23 := hr3.frozen 2
  have p23 : w3.cell? ⟨g, 2, none⟩ = some (.slice a l.length c) := hr3.cell 2
  have hgk : (Value.slice a (l.length - m) c).ownBlock = (Value.slice a l.length c).ownBlock := by cases a <;> rfl
  obtain ⟨k, hk⟩ : ∃ k, l.length - m = k := ⟨_, rfl⟩
  rw [hk] at ho3 hgk ⊢
  have hr4 : RowAt (w3.setCell ⟨g, 2, none⟩ (.slice a k c)) g #[.int .i64 room, .int .i64 next, .slice a k c, pv] 66 := (hr3.set 2 _).eq rfl
  have hk34 := (Keeps.refl (· = g) w3).setCell ⟨g, 2, none⟩ (.slice a k c) (.inl rfl)
  have hgl := hr.lt
  have ho4 := (ho2.keeps hk3 (fun b hb e => by have := (ho2.block b hb).1; have := (hB.block b e).2; omega)).keeps hk34 (fun b hb e => by have := (ho2.block b hb).1; omega)
  have ho5 := ho3.keeps hk34 (fun b hb e => by subst e; exact hgb (hgk ▸ hb))
  have hkF : Keeps (fun b => b = g ∨ (Value.slice a l.length c).ownBlock = some b) w (w3.setCell ⟨g, 2, none⟩ (.slice a k c)) :=
    ((hk2.mono (fun _ _ h => h.elim)).trans hk3 (fun b _ e => .inr e)).trans hk34 (fun b _ e => .inl e)
  rw [hTl] at ho4
  go_wp2
  go_ret2
  exact ⟨_, rfl, ho4, hkF, _, hr4, ho5, hgk⟩
end Go.Proofs.Ytiodmhcmciohnaa

/-! What stands while a stream's parts are put and read. -/
namespace Go.Proofs.Ytiodmhcmciohnaa
set_option linter.unusedVariables false
set_option linter.unusedSimpArgs false
open Go.RowKit

theorem RowAt.neq {w : World} {a b T T' : Nat} {cs cs' : Array Value} (h : RowAt w a cs T) (h' : RowAt w b cs' T') (hT : T ≠ T') : a ≠ b := by
  rintro rfl
  have : some (Obj.cells cs T (0, 0)) = some (Obj.cells cs' T' (0, 0)) := h.symm.trans h'
  simp only [Option.some.injEq, Obj.cells.injEq] at this
  exact hT this.2.1

structure RecvS (Z : Nat → Prop) (w : World) (g : Nat) (room : Int) (all : List UInt8) (next : Nat) (l : List UInt8) (L : List Pt) (bv pv : Value) (W : World) : Prop where
  hr : RowAt W g #[.int .i64 room, .int .i64 next, bv, pv] 66
  ho : BOwn W w.heap.size bv l
  hL : TRd W (OffG g bv Z) pv L
  gd : Good all ((next : Int) + 1) L
  ll : L.length ≤ 64
  nx : next ≤ all.length
  zb : ∀ b, bv.ownBlock = some b → ¬ Z b
  gg : w.heap.size ≤ g
  hk : Keeps (fun _ => False) w W

variable {Z : Nat → Prop} {w W : World} {g next : Nat} {room : Int} {all l : List UInt8} {L : List Pt} {bv pv : Value}

theorem RecvS.keeps {W' : World} (h : RecvS Z w g room all next l L bv pv W) (hk : Keeps (fun _ => False) W W') : RecvS Z w g room all next l L bv pv W' :=
  ⟨h.hr.keeps hk (fun h => h), h.ho.keeps hk (fun _ _ h => h), h.hL.keeps hk (fun _ _ h => h), h.gd, h.ll, h.nx, h.zb, h.gg, h.hk.trans hk (fun _ _ h => h)⟩
/-- Blocks of another's are written. -/
theorem RecvS.other {Z' : Nat → Prop} {W' : World} (h : RecvS Z w g room all next l L bv pv W) (hk : Keeps Z W W') (hg : ¬ Z g) (hZ : ∀ b, Z b → w.heap.size ≤ b) (hZ' : ∀ b, Z' b → Z b ∨ W.heap.size ≤ b) : RecvS Z' w g room all next l L bv pv W' := by
  have hL := h.hL.mono (Y := fun b => OffG g bv Z b ∧ b < W.heap.size) (fun b hb hb' => ⟨hb, hb'⟩)
  refine ⟨h.hr.keeps hk hg, h.ho.keeps hk h.zb, (hL.keeps hk (fun b hb => hb.1.2.2)).mono (fun b hb _ => ⟨hb.1.1, hb.1.2.1, fun e => ?_⟩), h.gd, h.ll, h.nx, fun b hb e => ?_, h.gg, h.hk.from hk hZ⟩
  · rcases hZ' b e with h1 | h1
    · exact hb.1.2.2 h1
    · have := hb.2; omega
  · rcases hZ' b e with h1 | h1
    · exact h.zb b hb h1
    · have := (h.ho.block b hb).2; omega
theorem Of.mono {all : List UInt8} {x y : Int} {q : Pt} (h : Of all x q) (hxy : y ≤ x) : Of all y q := ⟨Int.le_trans hxy h.low, h.ne, h.pre⟩
theorem Of.bd {all : List UInt8} {x : Int} {q : Pt} (h : Of all x q) (hx : 0 ≤ x) (ha : all.length ≤ 1000000) : Bd q := by
  have h1 := h.pre.length_le
  have h2 := List.length_pos_iff.2 h.ne
  have h3 := h.low
  rw [List.length_drop] at h1
  unfold Bd endF
  omega
theorem RecvS.bd (h : RecvS Z w g room all next l L bv pv W) (ha : all.length ≤ 1000000) : ∀ r ∈ L, Bd r := fun r hr => (h.gd.of r hr).bd (by omega) ha

/-- What a Put does to a receiver of the stream. -/
def PutS (Z : Nat → Prop) (w : World) (g : Nat) (room : Int) (all : List UInt8) (next : Nat) (l : List UInt8) (k N : Nat) (bv : Value) (W : World) (e : Ending) (w' : World) : Prop :=
  ∃ (n f : Nat) (L' : List Pt) (bv' pv' : Value), e = .returned (.tuple #[.int .i64 n, .int .i64 f]) ∧ RecvS Z w g room all (next + n) (l ++ (all.drop next).take n) L' bv' pv' w' ∧ (f = 0 ∨ f = 7 ∧ n = 0) ∧ n ≤ all.length ∧
    (k ≤ next → next < k + N → (l.length : Int) < room → f = 0 → n ≠ 0) ∧ Keeps (fun b => b = g ∨ bv.ownBlock = some b) W w'

theorem put_s (h : RecvS Z w g room all next l L bv pv W) (hZ : ∀ b, Z b → b < W.heap.size) (k N : Nat) (dv : Value) (hd : BRd W dv ((all.drop k).take N)) (hkN : k + N ≤ all.length) (ha : all.length ≤ 1000000) (h5 : 0 ≤ room) (h6 : room ≤ 65535) (hll : l.length ≤ 1000000) :
    Calls Try.prog 12 #[.pointer (some ⟨g, 0, none⟩), .int .i64 k, dv] W (PutS Z w g room all next l k N bv W) := by
  obtain ⟨D, hD⟩ : ∃ D, (all.drop k).take N = D := ⟨_, rfl⟩
  have hDl : D.length = N := by rw [← hD, List.length_take, List.length_drop]; omega
  have hDp : D <+: all.drop k := hD ▸ List.take_prefix N _
  rw [hD] at hd
  have hnx := h.nx
  by_cases h7 : highF k next (room - l.length) D.length ≤ lowF k next
  · refine (put_none g k next room bv dv pv D l W h.hr h.ho.bat.low hd (by omega) (by omega) (by omega) (by omega) h5 h6 hll h7).mono ?_
    rintro e w' ⟨rfl, m, rfl⟩
    have hk : Keeps (fun _ => False) W (W.drewN m) := (Keeps.refl _ _).drewN m
    refine ⟨0, 0, L, bv, pv, rfl, by rw [List.take_zero, List.append_nil, Nat.add_zero]; exact h.keeps hk, .inl rfl, Nat.zero_le _, fun e1 e2 e3 _ => ?_, hk.mono (fun _ _ h => h.elim)⟩
    exfalso
    unfold highF lowF at h7
    rw [hDl] at h7
    split at h7 <;> split at h7 <;> omega
  · have h7' : lowF k next < highF k next (room - l.length) D.length := by omega
    have hlow : (next : Int) ≤ lowF k next ∧ (k : Int) ≤ lowF k next := by unfold lowF; split <;> omega
    have hhigh : highF k next (room - l.length) D.length ≤ (k : Int) + D.length := by unfold highF; split <;> omega
    obtain ⟨p, hp⟩ : ∃ p, partF k next (room - l.length) D = p := ⟨_, rfl⟩
    have hp1 : p.1 = lowF k next := by rw [← hp]; rfl
    have hpl : p.2 ≠ [] := by
      rw [← hp]
      unfold partF
      intro e
      have := congrArg List.length e
      simp only [List.length_take, List.length_drop, List.length_nil] at this
      omega
    have hpo : Of all next p := by
      refine ⟨by rw [hp1]; exact hlow.1, hpl, ?_⟩
      have := pre_sub hDp (lowF k next - (k : Int)).toNat ((highF k next (room - l.length) D.length - k).toNat - (lowF k next - (k : Int)).toNat) (by omega)
      rw [hp1, show (lowF k next).toNat = k + (lowF k next - (k : Int)).toNat by omega, ← hp]
      exact this
    have hLo : ∀ q ∈ L, Of all next q := fun q hq => (h.gd.of q hq).mono (by omega)
    obtain ⟨a, d, rest, hM⟩ := mergeF_some hpl hLo
    have hG := mergeF_good (x := next) (by omega) hpo hLo
    rw [hM] at hG
    have hGa := hG.of (a, d) List.mem_cons_self
    have hsep := List.pairwise_cons.1 hG.sep
    obtain ⟨front, R, hfr⟩ : ∃ front R, (a = (next : Int) ∧ front = d ∧ R = rest) ∨ (a ≠ (next : Int) ∧ front = [] ∧ R = (a, d) :: rest) := by
      by_cases e : a = next
      · exact ⟨d, rest, .inl ⟨e, rfl, rfl⟩⟩
      · exact ⟨[], (a, d) :: rest, .inr ⟨e, rfl, rfl⟩⟩
    have hfp : front <+: all.drop next := by
      rcases hfr with ⟨e1, e2, -⟩ | ⟨-, e2, -⟩
      · rw [e2]
        have := hGa.pre
        simp only [e1, Int.toNat_natCast] at this
        exact this
      · rw [e2]; exact List.nil_prefix
    have hfl := hfp.length_le
    rw [List.length_drop] at hfl
    have hft : (all.drop next).take front.length = front := (List.prefix_iff_eq_take.1 hfp).symm
    have hne : k ≤ next → front ≠ [] := fun hkn => by
      have hl1 : lowF k next = next := by unfold lowF; split <;> omega
      obtain ⟨d', r', hf⟩ := mergeF_first (p := p) (L := L) hpl (fun q hq => by rw [hp1, hl1]; have := (h.gd.of q hq).low; omega)
      rw [hM] at hf
      have ha : a = (next : Int) := by
        have := (List.cons.inj hf).1
        have := (Prod.mk.inj this).1
        rw [this, hp1, hl1]
      rcases hfr with ⟨-, e2, -⟩ | ⟨e1, -, -⟩
      · rw [e2]; exact hGa.ne
      · exact absurd ha e1
    have hRl : (∀ r ∈ R, Of all ((next : Int) + front.length + 1) r) ∧ R.Pairwise (fun a b => endF a < b.1) := by
      rcases hfr with ⟨e1, e2, e3⟩ | ⟨e1, e2, e3⟩
      · rw [e2, e3]
        refine ⟨fun r hr => ?_, hsep.2⟩
        have h1 := hG.of r (List.mem_cons_of_mem _ hr)
        have h2 := hsep.1 r hr
        refine ⟨?_, h1.ne, h1.pre⟩
        unfold endF at h2
        simp only at h2
        omega
      · rw [e2, e3]
        refine ⟨fun r hr => ?_, hG.sep⟩
        have h1 := hG.of r hr
        refine ⟨?_, h1.ne, h1.pre⟩
        have h3 := hGa.low
        simp only at h3
        rcases List.mem_cons.1 hr with rfl | hr
        · simp only [List.length_nil]; omega
        · have h2 := hsep.1 r hr
          unfold endF at h2
          simp only [List.length_nil] at h2 ⊢
          omega
    refine (put_any Z g w.heap.size k next room bv dv pv D l L a d rest front R W h.hr h.ho h.hk.size hZ h.hL hd (h.bd ha) (by have := h.ll; omega) (by omega) (by omega) (by omega) (by omega) h5 h6 hll h7' (hp.symm ▸ hM) hfr).mono ?_
    rintro e w' (⟨-, rfl, hk⟩ | ⟨hR64, rfl, bv', pv', hr', ho', hL', hk', hpl'⟩)
    · exact ⟨0, 7, L, bv, pv, rfl, by rw [List.take_zero, List.append_nil, Nat.add_zero]; exact h.keeps hk, .inr ⟨rfl, rfl⟩, Nat.zero_le _, fun _ _ _ e => by omega, hk.mono (fun _ _ h => h.elim)⟩
    · refine ⟨front.length, 0, R, bv', pv', rfl, ⟨by rw [Int.natCast_add]; exact hr', by rw [hft]; exact ho', hL', ⟨hRl.2, fun r hr => (hRl.1 r hr).mono (by omega)⟩, hR64, by omega, fun b hb e => ?_, h.gg, h.hk.from hk' (fun b hb => ?_)⟩, .inl rfl, by omega, fun e1 _ _ _ e => hne e1 (List.eq_nil_of_length_eq_zero e), hk'⟩
      · rcases hpl' with h1 | ⟨b', h1, h2⟩
        · exact h.zb b (h1 ▸ hb) e
        · rw [h1] at hb
          have : b' = b := Option.some.inj hb
          have := hZ b e
          omega
      · rcases hb with rfl | hb
        · exact h.gg
        · exact (h.ho.block b hb).1

theorem read_s (h : RecvS Z w g room all next l L bv pv W) (n : Int) (m : Nat) (hll : l.length ≤ 1000000) (hn0 : 0 ≤ n) (hm : (m : Int) = if (l.length : Int) < n then (l.length : Int) else n) :
    Calls Try.prog 14 #[.pointer (some ⟨g, 0, none⟩), .int .i64 n] W fun e w' => ∃ v bv', e = .returned (.tuple #[v, .int .i64 0]) ∧ BOwn w' W.heap.size v (l.take m) ∧ RecvS Z w g room all next (l.drop m) L bv' pv w' ∧ Keeps (fun b => b = g ∨ bv.ownBlock = some b) W w' := by
  refine (read_any g w.heap.size m room next n bv pv l W h.hr h.ho hll hn0 hm).mono ?_
  rintro e w' ⟨v, rfl, hv, hk, bv', hr', ho', hp'⟩
  refine ⟨v, bv', rfl, hv, ⟨hr', ho', (h.hL.keeps hk (fun b hb e => by rcases e with e | e; · exact hb.1 e
                                                                       · exact hb.2.1 e)).mono (fun b hb _ => ⟨hb.1, by rw [hp']; exact hb.2.1, hb.2.2⟩), h.gd, h.ll, h.nx, fun b hb => h.zb b (hp' ▸ hb), h.gg, h.hk.from hk (fun b hb => ?_)⟩, hk⟩
  rcases hb with rfl | hb
  · exact h.gg
  · exact (h.ho.block b hb).1
theorem room_s (h : RecvS Z w g room all next l L bv pv W) (h5 : 0 ≤ room) (h6 : room ≤ 65535) (hll : l.length ≤ 1000000) :
    Calls Try.prog 17 #[.pointer (some ⟨g, 0, none⟩)] W fun e w' => e = .returned (.int .i64 (room - l.length)) ∧ ∃ m, w' = W.drewN m := by
  obtain ⟨a, c, rfl, -, -⟩ := BOwn.slice h.ho
  exact room_any g _ pv room next l.length a c W h.hr rfl (by omega) (by omega) (by omega)
theorem next_s (h : RecvS Z w g room all next l L bv pv W) : Calls Try.prog 16 #[.pointer (some ⟨g, 0, none⟩)] W fun e w' => e = .returned (.int .i64 next) ∧ W = w' := next_any g room next bv pv W h.hr
end Go.Proofs.Ytiodmhcmciohnaa

/-! Words for rows of three numbers. -/
namespace Go.Proofs.Ytiodmhcmciohnaa
set_option linter.unusedVariables false
set_option linter.unusedSimpArgs false
open Go.RowKit

structure TriV where
  at' : Int
  n : Int
  read : Int
structure TriFit (o : TriV) : Prop where
  a1 : -9223372036854775808 ≤ o.at'
  a2 : o.at' ≤ 9223372036854775807
  n1 : -9223372036854775808 ≤ o.n
  n2 : o.n ≤ 9223372036854775807
  r1 : -9223372036854775808 ≤ o.read
  r2 : o.read ≤ 9223372036854775807
def tcells (q : TriV) : List Value := [.int .i64 q.at', .int .i64 q.n, .int .i64 q.read]
def flat3 (qs : List TriV) : List Value := qs.flatMap tcells
theorem flat3_length : ∀ qs : List TriV, (flat3 qs).length = qs.length * 3
  | [] => rfl
  | q :: qs => by
    have := flat3_length qs
    unfold flat3 at *
    rw [List.flatMap_cons, List.length_append, this, List.length_cons]
    show 3 + _ = _
    omega
theorem flat3_get : ∀ (qs : List TriV) (i : Nat) (q : TriV) (k : Nat), qs[i]? = some q → k < 3 → (flat3 qs)[i * 3 + k]? = (tcells q)[k]?
  | [], i, q, k, h, _ => by simp at h
  | q' :: qs, 0, q, k, h, hk => by
    obtain rfl : q' = q := by simpa using h
    unfold flat3
    rw [List.flatMap_cons, Nat.zero_mul, Nat.zero_add, List.getElem?_append_left (by show k < 3; exact hk)]
  | q' :: qs, i + 1, q, k, h, hk => by
    have := flat3_get qs i q k (by simpa using h) hk
    unfold flat3 at *
    rw [List.flatMap_cons, List.getElem?_append_right (by show 3 ≤ _; omega)]
    show _[(i + 1) * 3 + k - 3]? = _
    rw [show (i + 1) * 3 + k - 3 = i * 3 + k by omega, this]
/-- v reads these rows. -/
def TriRd (w : World) (v : Value) (L : List TriV) : Prop := SAt w (· < w.heap.size) 3 v L.length (flat3 L) ∧ ∀ q ∈ L, TriFit q
theorem TriRd.slice {w : World} {v : Value} {L : List TriV} (h : TriRd w v L) : ∃ a c, v = .slice a L.length c ∧ L.length ≤ c ∧ c ≤ maxLen := SAt.slice h.1
theorem TriRd.at {w : World} {v : Value} {L : List TriV} (h : TriRd w v L) (i : Nat) (hi : i < L.length) :
    ∃ b off c, v = .slice (some ⟨b, off, none⟩) L.length c ∧ b < w.heap.size ∧ TriFit L[i] ∧ w.cell? ⟨b, off + i * 3, none⟩ = some (.int .i64 L[i].at') ∧ w.cell? ⟨b, off + i * 3 + 1, none⟩ = some (.int .i64 L[i].n) ∧
      w.cell? ⟨b, off + i * 3 + 2, none⟩ = some (.int .i64 L[i].read) := by
  obtain ⟨⟨h1, a', c', e, h3, h4, h5⟩, h6⟩ := h
  rcases h5 with h5 | ⟨b, off, hb, rfl, hc⟩
  · rw [h5] at h1; simp at h1; omega
  · have hq : L[i]? = some L[i] := List.getElem?_eq_getElem hi
    refine ⟨b, off, c', e, hb, h6 _ (List.getElem_mem _), ?_, ?_, ?_⟩
    · have hf := flat3_get L i _ 0 hq (by omega)
      rw [Nat.add_zero] at hf
      exact hc _ _ hf
    · have hf := flat3_get L i _ 1 hq (by omega)
      rw [Nat.add_assoc]
      exact hc _ _ hf
    · have hf := flat3_get L i _ 2 hq (by omega)
      rw [Nat.add_assoc]
      exact hc _ _ hf
end Go.Proofs.Ytiodmhcmciohnaa
