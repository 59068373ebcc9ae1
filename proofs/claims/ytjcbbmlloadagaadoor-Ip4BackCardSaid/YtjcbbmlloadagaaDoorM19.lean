/- Words, walks and plain laws that the claim leans on, part 19. -/
import Derived.Test.YtjcbbmlloadagaaDoorM6
import Derived.Test.YtjcbbmlloadagaaDoorM14
import Derived.Test.YtjcbbmlloadagaaDoorM16
import Derived.Test.YtjcbbmlloadagaaDoorM18
import Derived.Lib.SlBytesConst

/-! awake of layer 3. -/
namespace Go.Proofs.YtjcbbmlloadagaaDoor
set_option linter.unusedVariables false
set_option linter.unusedSimpArgs false
open Go.RowKit Go.Proofs.YtjcbbmlloadagaaDoor.PQ

def ONE : P4 := ⟨0, 0, 64, 17, false, false, 0, [10, 0, 0, 1], [10, 0, 0, 2], [], []⟩
def TEXT : List UInt8 := [69, 0, 0, 20, 0, 0, 0, 0, 64, 17, 102, 215, 10, 0, 0, 1, 10, 0, 0, 2]
def TEXT3 : List UInt8 := [69, 0, 0, 20, 0, 0, 0, 0, 64, 17, 102, 215, 10, 0, 0, 1, 10, 0, 0, 3]
def OPTX : List UInt8 := [1, 148, 4, 0, 0, 0]
theorem one_check : checkE ONE = 0 := by decide
theorem one_bytes : bytesP ONE = TEXT := by decide
theorem text_parse : parseE TEXT = 0 := by decide
theorem text_out : P4out TEXT = ONE := by unfold P4out; rw [if_pos text_parse]; rfl
theorem text3_parse : parseE TEXT3 = 5 := by decide
theorem text3_out : P4out TEXT3 = p4zero := by unfold P4out; rw [if_neg (by rw [text3_parse]; decide)]
theorem optx_is : optF OPTX = ([⟨1, ⟨#[]⟩⟩, ⟨148, ⟨#[0, 0]⟩⟩], 0) := by rfl
theorem one_any (w : World) : Calls Tryd.prog 28 #[] w fun e w' => e = .returned (.agg (p4cells ONE (.slice none 0 0))) ∧ Keeps (fun _ => False) w w' := by
  go_enter Tryd.func28, Tryd.ntmps28
  go_wp2_with (refine wpList_store_whole rfl 25 (.tmp 0) (.tmp 1) rfl w.heap.size (p4cells ONE (.slice none 0 0)) rfl rfl 25 _ 11 (RowAt.new w _ _) rfl rfl (by kernel_rfl) (p4_one _ _ rfl) (fun w5 hr5 hk5 => ?_))
  exact bodyPost_ret (results_cell_row (by rfl) _ _ _ _ _ (0, 0) _ (by rfl) hr5 Tryd.underlying25 rfl (by kernel_rfl)) rfl ⟨rfl, ((Keeps.refl (fun _ => False) w).alloc _).from hk5 (fun b e => by subst e; exact Nat.le_refl _)⟩

def rX (L : List S41) : Rel := ⟨fun v w => XRd w v L, fun _ _ _ h hk => h.keeps hk⟩
theorem XRd.lit2 (w : World) (T : TypeId) : XRd (w.alloc (.cells #[.int .i64 1, .string ⟨#[]⟩, .int .i64 148, .string ⟨#[0, 0]⟩] T)) (.slice (some ⟨w.heap.size, 0, none⟩) 2 2) [⟨1, ⟨#[]⟩⟩, ⟨148, ⟨#[0, 0]⟩⟩] := by
  refine ⟨some ⟨w.heap.size, 0, none⟩, 2, rfl, Nat.le_refl _, rfl, by decide, fun _ => ⟨_, rfl, fun j p hp => ?_⟩⟩
  have hr := RowAt.new w #[.int .i64 1, .string ⟨#[]⟩, .int .i64 148, .string ⟨#[0, 0]⟩] T
  rcases j with _ | _ | j
  · obtain rfl : (⟨1, ⟨#[]⟩⟩ : S41) = p := by simpa using hp
    refine ⟨_, rfl, Go.Proofs.YtjcbbmlloadagaaDoor.PQ.k41_mk _ _, fun i u hu => ?_⟩
    rw [addr_add, hr.cell, show Go.Proofs.YtjcbbmlloadagaaDoor.PQ.k41.sz = 2 from rfl]
    rcases i with _ | _ | i <;> simp at hu ⊢ <;> exact hu
  · obtain rfl : (⟨148, ⟨#[0, 0]⟩⟩ : S41) = p := by simpa using hp
    refine ⟨_, rfl, Go.Proofs.YtjcbbmlloadagaaDoor.PQ.k41_mk _ _, fun i u hu => ?_⟩
    rw [addr_add, hr.cell, show Go.Proofs.YtjcbbmlloadagaaDoor.PQ.k41.sz = 2 from rfl]
    rcases i with _ | _ | i <;> simp at hu ⊢ <;> exact hu
  · simp at hp

set_option maxRecDepth 100000 in
set_option maxHeartbeats 4000000 in
theorem awake_any (w : World) (hg : ErrT w) : Calls Tryd.prog 13 #[] w fun e w' => e = .returned (.bool true) ∧ Keeps (fun _ => False) w w' := by
  have kc := fun (w : World) (C : Array Value) (n c : Nat) => Lib.run_convert_bytes_const (P := Tryd.prog) w 22 5 C n c Tryd.underlying22 Tryd.underlying5
  obtain ⟨L3, hL3⟩ : ∃ L3, TEXT3 = L3 := ⟨_, rfl⟩
  have eX : (ByteArray.mk #[69, 0, 0, 20, 0, 0, 0, 0, 64, 17, 102, 215, 10, 0, 0, 1, 10, 0, 0, 2]).extract 0 19 ++ ByteArray.mk #[3] = ⟨L3.toArray⟩ := by rw [← hL3]; rfl
  have hX19 : ((ByteArray.mk #[69, 0, 0, 20, 0, 0, 0, 0, 64, 17, 102, 215, 10, 0, 0, 1, 10, 0, 0, 2]).extract 0 19).size = 19 := by rfl
  have HL3 := Lib.hid hL3
  clear hL3
  go_enter Tryd.func13, Tryd.ntmps13
  go_wp2_with fail
  refine (one_any _).mono ?_
  rintro e w1 ⟨rfl, hk1⟩
  have hg1 := hg.keeps hk1
  have hB := bytes_any ONE (.slice none 0 0) w1 hg1 (BAt.nil _ _) (by decide) (by decide)
  have HBY := Lib.hid hB
  clear hB
  go_wp2_with fail
  refine HBY.out.mono ?_
  rintro e w2 ⟨hk2, ⟨-, v2, rfl, ho2⟩ | ⟨hne, rfl⟩⟩
  case inr => exact absurd one_check hne
  rw [one_bytes] at ho2
  have hkA := hk1.trans hk2 (fun _ _ h => h)
  clear hk1 hk2 hg1 HBY
  have hT := BAt.litF w2 #[.int .u8 69, .int .u8 0, .int .u8 0, .int .u8 20, .int .u8 0, .int .u8 0, .int .u8 0, .int .u8 0, .int .u8 64, .int .u8 17, .int .u8 102, .int .u8 215, .int .u8 10, .int .u8 0, .int .u8 0, .int .u8 1, .int .u8 10, .int .u8 0, .int .u8 0, .int .u8 2] TEXT 20 5 (20, 21) rfl rfl (by omega)
  have hkT := (Keeps.refl (fun _ => False) w2).alloc (.cells #[.int .u8 69, .int .u8 0, .int .u8 0, .int .u8 20, .int .u8 0, .int .u8 0, .int .u8 0, .int .u8 0, .int .u8 64, .int .u8 17, .int .u8 102, .int .u8 215, .int .u8 10, .int .u8 0, .int .u8 0, .int .u8 1, .int .u8 10, .int .u8 0, .int .u8 0, .int .u8 2] 5 (20, 21))
  have hP := parse_any _ TEXT _ hT.low (hg.keeps (hkA.trans hkT (fun _ _ h => h))) (by decide)
  have HP := Lib.hid hP
  clear hP
  go_wp2_with fail
  refine HP.out.mono ?_
  rintro e w3 ⟨d3, rfl, hd3, hk3⟩
  rw [text_out, text_parse]
  rw [text_out] at hd3
  have hkB := (hkA.trans hkT (fun _ _ h => h)).trans hk3 (fun _ _ h => h)
  have ho3 := (ho2.keeps hkT (fun _ _ h => h)).keeps hk3 (fun _ _ h => h)
  clear hT hkT hk3 hkA ho2 HP
  obtain ⟨q, hq⟩ : ∃ q, w3.heap.size = q := ⟨_, rfl⟩
  go_wp2_with (refine wpList_store_whole rfl 25 (.tmp 3) (.tmp 18) rfl q (p4cells ONE d3) rfl rfl 25 _ 11 (hq ▸ RowAt.new w3 p4zc _) rfl rfl (by kernel_rfl) (p4_one _ _ (by obtain ⟨a, c, rfl, -, -⟩ := BAt.slice hd3; rfl)) (fun w4 hr4 hk4 => ?_); have hcv := conv_text w4 L3; have hb4 := BAt.ofText w4 L3 (by rw [← HL3.out]; decide); generalize hw5 : Lib.bytesWorld w4 5 ⟨L3.toArray⟩ = w5 at hcv hb4)
  have hk45 := Keeps.bytesWorld w4 5 ⟨L3.toArray⟩
  rw [hw5] at hk45
  have hkC : Keeps (fun _ => False) w w5 := ((hkB.alloc (.cells p4zc 25)).from hk4 (fun b e => by have := hkB.size; omega)).trans hk45 (fun _ _ h => h)
  have hk35 : Keeps (fun _ => False) w3 w5 := (((Keeps.refl (fun _ => False) w3).alloc (.cells p4zc 25)).from hk4 (fun b e => by omega)).trans hk45 (fun _ _ h => h)
  have hP := parse_any _ L3 w5 hb4.low (hg.keeps hkC) (by rw [← HL3.out]; decide)
  refine hP.mono ?_
  rintro e w6 ⟨d6, rfl, hd6, hk6⟩
  rw [← HL3.out] at hd6 ⊢
  rw [text3_out, text3_parse]
  rw [text3_out] at hd6
  have hk36 := hk35.trans hk6 (fun _ _ h => h)
  have ho6 := ho3.keeps hk36 (fun _ _ h => h)
  have hd36 := hd3.keeps hk36
  have hr6 := (hr4.keeps hk45 (fun h => h)).keeps hk6 (fun h => h)
  have hkC6 := hkC.trans hk6 (fun _ _ h => h)
  clear hP hk6 hk35 hk36 hkC hk45 hk4 hr4 hcv hb4 hw5 ho3 hd3 hkB eX hX19 kc
  obtain ⟨q2, hq2⟩ : ∃ q, w6.heap.size = q := ⟨_, rfl⟩
  have hq12 : q ≠ q2 := by have := hr6.lt; omega
  go_wp2_with (first | (refine wpList_store_whole rfl 25 (.tmp 5) (.tmp 25) rfl q2 (p4cells p4zero d6) rfl rfl 25 _ 11 (hq2 ▸ RowAt.new w6 p4zc _) rfl rfl (by kernel_rfl) (p4_one _ _ (by obtain ⟨a, c, rfl, -, -⟩ := BAt.slice hd6; rfl)) (fun w7 hr7 hk7 => ?_)) | (refine (opts_any OPTX _ (by decide)).mono ?_; rintro e w8 ⟨v8, rfl, hx8, hk8⟩; rw [optx_is] at hx8 ⊢))
  have hk68 : Keeps (fun _ => False) w6 w8 := (((Keeps.refl (fun _ => False) w6).alloc (.cells p4zc 25)).from hk7 (fun b e => by omega)).trans hk8 (fun _ _ h => h)
  have hot : BRd w8 v2 TEXT := BRd.keeps ho6.bat.low hk68
  have hdt := hd36.keeps hk68
  have hrq := hr6.keeps hk68 (fun h => h)
  have hkD := hkC6.trans hk68 (fun _ _ h => h)
  have hxt := hx8
  obtain ⟨s2, z2, rfl, -, -⟩ := BAt.slice hot
  clear hq hq2 hk68 hkC6 hx8 hr6 hd36 ho6 hk8 hk7 hr7 hd6
  refine region_T [] (fun _ => True) (by kernel_rfl) ?_
  have hC : (fun _ : World => True) w8.drew := trivial
  refine anyT_take0 (i := 0) (v := ?_) rfl (by kernel_rfl) (by kernel_rfl) (by kernel_rfl) (by kernel_rfl) (by kernel_rfl) (fun _ _ _ h => h) hC (.inl ⟨by rfl, fun _ _ => ?_⟩) ?_
  rotate_left 1
  · go_simp
    try with_reducible rfl
  simp only [Act.put, List.getElem_toArray, List.getElem_cons_succ, List.getElem_cons_zero, List.setIfInBounds_toArray, List.set_cons_zero, List.set_cons_succ]
  generalize hw9 : w8.drew = w9
  have hk89 : Keeps (fun _ => False) w8 w9 := hw9 ▸ (Keeps.refl _ _).drew
  have hot := hot.keeps hk89
  have hdt := hdt.keeps hk89
  have hrq := hrq.keeps hk89 (fun h => h)
  have hxt := hxt.keeps hk89
  have hkD := hkD.trans hk89 (fun _ _ h => h)
  clear hw9 hk89
  refine anyT_par [(1, rEq (.string ⟨TEXT.toArray⟩)), (2, rEq (.bool true)), (3, rEq (.bool true)), (4, rEq (.int .i64 0)), (5, rEq (.bool true)), (6, rEq (.bool true)), (7, rEq (.bool true)), (8, rEq (.agg (p4cells ONE d3))), (9, rEq (.agg (p4cells ONE (.slice none 0 0)))), (10, rEq (.bool true)), (11, rEq (.bool true)), (12, rEq (.bool true)), (13, rEq (.int .i64 0)), (14, rEq (.int .i64 0)), (15, rEq (.bool true)), (16, rEq (.bool true)), (17, rEq (.bool true)), (18, rEq (.int .i64 5)), (19, rEq (.bool true)), (20, rEq (.bool true)), (21, rEq (.bool true)), (22, rEq v8), (23, rEq (.agg #[.int .i64 1, .string ⟨#[]⟩])), (24, rEq (.agg #[.int .i64 148, .string ⟨#[0, 0]⟩])), (25, rX [⟨1, ⟨#[]⟩⟩, ⟨148, ⟨#[0, 0]⟩⟩]), (26, rEq (.bool true)), (27, rEq (.bool true)), (28, rEq (.bool true)), (29, rEq (.int .i64 0)), (30, rEq (.int .i64 0)), (31, rEq (.bool true)), (32, rEq (.bool true)), (33, rEq (.bool true))] _ [1, 2, 3, 4, 5, 6, 7, 8, 9, 10, 11, 12, 13, 14, 15, 16, 17, 18, 19, 20, 21, 22, 23, 24, 25, 26, 27, 28, 29, 30, 31, 32, 33] (fun _ => trivial) (by kernel_rfl) rfl (by kernel_rfl) rfl ?_
  refine ⟨_, rfl, fun w2 hk2 hK => ?_, fun u1 => ?_⟩
  rotate_left 1
  simp only [dstOf, Act.put, List.getElem?_toArray, List.getElem?_cons_succ, List.getElem?_cons_zero, Option.bind_some, List.setIfInBounds_toArray, List.set_cons_zero, List.set_cons_succ, List.nil_append, List.cons_append]
  rotate_left 1
  · have hTX := (BRd.keeps hot hk2).text
    go_wp2
    exact ⟨_, rfl, rfl, Keeps.refl _ _⟩
  refine ⟨_, rfl, fun w2 hk2 hK => ?_, fun u2 => ?_⟩
  rotate_left 1
  simp only [dstOf, Act.put, List.getElem?_toArray, List.getElem?_cons_succ, List.getElem?_cons_zero, Option.bind_some, List.setIfInBounds_toArray, List.set_cons_zero, List.set_cons_succ, List.nil_append, List.cons_append]
  rotate_left 1
  · obtain rfl : u1 = (.string ⟨TEXT.toArray⟩) := hK (1, u1) (by simp) (by kernel_rfl)
    go_wp2
    exact ⟨_, rfl, rfl, Keeps.refl _ _⟩
  refine ⟨_, rfl, fun w2 hk2 hK => ?_, fun u3 => ?_⟩
  rotate_left 1
  simp only [dstOf, Act.put, List.getElem?_toArray, List.getElem?_cons_succ, List.getElem?_cons_zero, Option.bind_some, List.setIfInBounds_toArray, List.set_cons_zero, List.set_cons_succ, List.nil_append, List.cons_append]
  rotate_left 1
  · obtain rfl : u2 = (.bool true) := hK (2, u2) (by simp) (by kernel_rfl)
    go_wp2
    exact ⟨_, rfl, rfl, Keeps.refl _ _⟩
  refine ⟨_, rfl, fun w2 hk2 hK => ?_, fun u4 => ?_⟩
  rotate_left 1
  simp only [dstOf, Act.put, List.getElem?_toArray, List.getElem?_cons_succ, List.getElem?_cons_zero, Option.bind_some, List.setIfInBounds_toArray, List.set_cons_zero, List.set_cons_succ, List.nil_append, List.cons_append]
  rotate_left 1
  · obtain rfl : u3 = (.bool true) := hK (3, u3) (by simp) (by kernel_rfl)
    go_wp2
    exact ⟨_, rfl, rfl, Keeps.refl _ _⟩
  refine ⟨_, rfl, fun w2 hk2 hK => ?_, fun u5 => ?_⟩
  rotate_left 1
  simp only [dstOf, Act.put, List.getElem?_toArray, List.getElem?_cons_succ, List.getElem?_cons_zero, Option.bind_some, List.setIfInBounds_toArray, List.set_cons_zero, List.set_cons_succ, List.nil_append, List.cons_append]
  rotate_left 1
  · obtain rfl : u4 = (.int .i64 0) := hK (4, u4) (by simp) (by kernel_rfl)
    obtain rfl : u3 = (.bool true) := hK (3, u3) (by simp) (by kernel_rfl)
    go_wp2
    exact ⟨_, rfl, rfl, Keeps.refl _ _⟩
  refine ⟨_, rfl, fun w2 hk2 hK => ?_, fun u6 => ?_⟩
  rotate_left 1
  simp only [dstOf, Act.put, List.getElem?_toArray, List.getElem?_cons_succ, List.getElem?_cons_zero, Option.bind_some, List.setIfInBounds_toArray, List.set_cons_zero, List.set_cons_succ, List.nil_append, List.cons_append]
  rotate_left 1
  · obtain rfl : u3 = (.bool true) := hK (3, u3) (by simp) (by kernel_rfl)
    obtain rfl : u5 = (.bool true) := hK (5, u5) (by simp) (by kernel_rfl)
    go_wp2
    exact ⟨_, rfl, rfl, Keeps.refl _ _⟩
  refine ⟨_, rfl, fun w2 hk2 hK => ?_, fun u7 => ?_⟩
  rotate_left 1
  simp only [dstOf, Act.put, List.getElem?_toArray, List.getElem?_cons_succ, List.getElem?_cons_zero, Option.bind_some, List.setIfInBounds_toArray, List.set_cons_zero, List.set_cons_succ, List.nil_append, List.cons_append]
  rotate_left 1
  · obtain rfl : u6 = (.bool true) := hK (6, u6) (by simp) (by kernel_rfl)
    go_wp2
    exact ⟨_, rfl, rfl, Keeps.refl _ _⟩
  refine ⟨_, rfl, fun w2 hk2 hK => ?_, fun u8 => ?_⟩
  rotate_left 1
  simp only [dstOf, Act.put, List.getElem?_toArray, List.getElem?_cons_succ, List.getElem?_cons_zero, Option.bind_some, List.setIfInBounds_toArray, List.set_cons_zero, List.set_cons_succ, List.nil_append, List.cons_append]
  rotate_left 1
  · obtain rfl : u7 = (.bool true) := hK (7, u7) (by simp) (by kernel_rfl)
    have hrr := hrq.keeps hk2 (fun h => h)
    have c0 := hrr.cell 0
    have c1 := hrr.cell 1
    have c2 := hrr.cell 2
    have c3 := hrr.cell 3
    have c4 := hrr.cell 4
    have c5 := hrr.cell 5
    have c6 := hrr.cell 6
    have c7 := hrr.cell 7
    have c8 := hrr.cell 8
    have c9 := hrr.cell 9
    have c10 := hrr.cell 10
    simp only [p4cells, ONE, txt, List.getElem?_toArray, List.getElem?_cons_succ, List.getElem?_cons_zero] at c0 c1 c2 c3 c4 c5 c6 c7 c8 c9 c10
    clear hrr
    go_wp2
    exact ⟨_, rfl, rfl, Keeps.refl _ _⟩
  refine ⟨_, rfl, fun w2 hk2 hK => ?_, fun u9 => ?_⟩
  rotate_left 1
  simp only [dstOf, Act.put, List.getElem?_toArray, List.getElem?_cons_succ, List.getElem?_cons_zero, Option.bind_some, List.setIfInBounds_toArray, List.set_cons_zero, List.set_cons_succ, List.nil_append, List.cons_append]
  rotate_left 1
  · obtain rfl : u7 = (.bool true) := hK (7, u7) (by simp) (by kernel_rfl)
    go_wp2_with (refine (one_any _).mono ?_; rintro e w6 ⟨rfl, hk6⟩)
    exact ⟨_, rfl, rfl, hk6⟩
  refine ⟨_, rfl, fun w2 hk2 hK => ?_, fun u10 => ?_⟩
  rotate_left 1
  simp only [dstOf, Act.put, List.getElem?_toArray, List.getElem?_cons_succ, List.getElem?_cons_zero, Option.bind_some, List.setIfInBounds_toArray, List.set_cons_zero, List.set_cons_succ, List.nil_append, List.cons_append]
  rotate_left 1
  · obtain rfl : u8 = (.agg (p4cells ONE d3)) := hK (8, u8) (by simp) (by kernel_rfl)
    obtain rfl : u9 = (.agg (p4cells ONE (.slice none 0 0))) := hK (9, u9) (by simp) (by kernel_rfl)
    obtain rfl : u7 = (.bool true) := hK (7, u7) (by simp) (by kernel_rfl)
    go_wp2_with (refine (same4_any ONE d3 _ _ (BRd.keeps hdt hk2) (BAt.nil _ _)).mono ?_; rintro e w6 ⟨rfl, hk6⟩)
    exact ⟨_, rfl, rfl, hk6⟩
  refine ⟨_, rfl, fun w2 hk2 hK => ?_, fun u11 => ?_⟩
  rotate_left 1
  simp only [dstOf, Act.put, List.getElem?_toArray, List.getElem?_cons_succ, List.getElem?_cons_zero, Option.bind_some, List.setIfInBounds_toArray, List.set_cons_zero, List.set_cons_succ, List.nil_append, List.cons_append]
  rotate_left 1
  · obtain rfl : u7 = (.bool true) := hK (7, u7) (by simp) (by kernel_rfl)
    obtain rfl : u10 = (.bool true) := hK (10, u10) (by simp) (by kernel_rfl)
    go_wp2
    exact ⟨_, rfl, rfl, Keeps.refl _ _⟩
  refine ⟨_, rfl, fun w2 hk2 hK => ?_, fun u12 => ?_⟩
  rotate_left 1
  simp only [dstOf, Act.put, List.getElem?_toArray, List.getElem?_cons_succ, List.getElem?_cons_zero, Option.bind_some, List.setIfInBounds_toArray, List.set_cons_zero, List.set_cons_succ, List.nil_append, List.cons_append]
  rotate_left 1
  · obtain rfl : u11 = (.bool true) := hK (11, u11) (by simp) (by kernel_rfl)
    go_wp2
    exact ⟨_, rfl, rfl, Keeps.refl _ _⟩
  refine ⟨_, rfl, fun w2 hk2 hK => ?_, fun u13 => ?_⟩
  rotate_left 1
  simp only [dstOf, Act.put, List.getElem?_toArray, List.getElem?_cons_succ, List.getElem?_cons_zero, Option.bind_some, List.setIfInBounds_toArray, List.set_cons_zero, List.set_cons_succ, List.nil_append, List.cons_append]
  rotate_left 1
  · obtain rfl : u12 = (.bool true) := hK (12, u12) (by simp) (by kernel_rfl)
    go_wp2
    exact ⟨_, rfl, rfl, Keeps.refl _ _⟩
  refine ⟨_, rfl, fun w2 hk2 hK => ?_, fun u14 => ?_⟩
  rotate_left 1
  simp only [dstOf, Act.put, List.getElem?_toArray, List.getElem?_cons_succ, List.getElem?_cons_zero, Option.bind_some, List.setIfInBounds_toArray, List.set_cons_zero, List.set_cons_succ, List.nil_append, List.cons_append]
  rotate_left 1
  · obtain rfl : u12 = (.bool true) := hK (12, u12) (by simp) (by kernel_rfl)
    go_wp2
    exact ⟨_, rfl, rfl, Keeps.refl _ _⟩
  refine ⟨_, rfl, fun w2 hk2 hK => ?_, fun u15 => ?_⟩
  rotate_left 1
  simp only [dstOf, Act.put, List.getElem?_toArray, List.getElem?_cons_succ, List.getElem?_cons_zero, Option.bind_some, List.setIfInBounds_toArray, List.set_cons_zero, List.set_cons_succ, List.nil_append, List.cons_append]
  rotate_left 1
  · obtain rfl : u13 = (.int .i64 0) := hK (13, u13) (by simp) (by kernel_rfl)
    obtain rfl : u14 = (.int .i64 0) := hK (14, u14) (by simp) (by kernel_rfl)
    obtain rfl : u12 = (.bool true) := hK (12, u12) (by simp) (by kernel_rfl)
    go_wp2
    exact ⟨_, rfl, rfl, Keeps.refl _ _⟩
  refine ⟨_, rfl, fun w2 hk2 hK => ?_, fun u16 => ?_⟩
  rotate_left 1
  simp only [dstOf, Act.put, List.getElem?_toArray, List.getElem?_cons_succ, List.getElem?_cons_zero, Option.bind_some, List.setIfInBounds_toArray, List.set_cons_zero, List.set_cons_succ, List.nil_append, List.cons_append]
  rotate_left 1
  · obtain rfl : u12 = (.bool true) := hK (12, u12) (by simp) (by kernel_rfl)
    obtain rfl : u15 = (.bool true) := hK (15, u15) (by simp) (by kernel_rfl)
    go_wp2
    exact ⟨_, rfl, rfl, Keeps.refl _ _⟩
  refine ⟨_, rfl, fun w2 hk2 hK => ?_, fun u17 => ?_⟩
  rotate_left 1
  simp only [dstOf, Act.put, List.getElem?_toArray, List.getElem?_cons_succ, List.getElem?_cons_zero, Option.bind_some, List.setIfInBounds_toArray, List.set_cons_zero, List.set_cons_succ, List.nil_append, List.cons_append]
  rotate_left 1
  · obtain rfl : u16 = (.bool true) := hK (16, u16) (by simp) (by kernel_rfl)
    go_wp2
    exact ⟨_, rfl, rfl, Keeps.refl _ _⟩
  refine ⟨_, rfl, fun w2 hk2 hK => ?_, fun u18 => ?_⟩
  rotate_left 1
  simp only [dstOf, Act.put, List.getElem?_toArray, List.getElem?_cons_succ, List.getElem?_cons_zero, Option.bind_some, List.setIfInBounds_toArray, List.set_cons_zero, List.set_cons_succ, List.nil_append, List.cons_append]
  rotate_left 1
  · obtain rfl : u17 = (.bool true) := hK (17, u17) (by simp) (by kernel_rfl)
    go_wp2
    exact ⟨_, rfl, rfl, Keeps.refl _ _⟩
  refine ⟨_, rfl, fun w2 hk2 hK => ?_, fun u19 => ?_⟩
  rotate_left 1
  simp only [dstOf, Act.put, List.getElem?_toArray, List.getElem?_cons_succ, List.getElem?_cons_zero, Option.bind_some, List.setIfInBounds_toArray, List.set_cons_zero, List.set_cons_succ, List.nil_append, List.cons_append]
  rotate_left 1
  · obtain rfl : u18 = (.int .i64 5) := hK (18, u18) (by simp) (by kernel_rfl)
    obtain rfl : u17 = (.bool true) := hK (17, u17) (by simp) (by kernel_rfl)
    go_wp2
    exact ⟨_, rfl, rfl, Keeps.refl _ _⟩
  refine ⟨_, rfl, fun w2 hk2 hK => ?_, fun u20 => ?_⟩
  rotate_left 1
  simp only [dstOf, Act.put, List.getElem?_toArray, List.getElem?_cons_succ, List.getElem?_cons_zero, Option.bind_some, List.setIfInBounds_toArray, List.set_cons_zero, List.set_cons_succ, List.nil_append, List.cons_append]
  rotate_left 1
  · obtain rfl : u17 = (.bool true) := hK (17, u17) (by simp) (by kernel_rfl)
    obtain rfl : u19 = (.bool true) := hK (19, u19) (by simp) (by kernel_rfl)
    go_wp2
    exact ⟨_, rfl, rfl, Keeps.refl _ _⟩
  refine ⟨_, rfl, fun w2 hk2 hK => ?_, fun u21 => ?_⟩
  rotate_left 1
  simp only [dstOf, Act.put, List.getElem?_toArray, List.getElem?_cons_succ, List.getElem?_cons_zero, Option.bind_some, List.setIfInBounds_toArray, List.set_cons_zero, List.set_cons_succ, List.nil_append, List.cons_append]
  rotate_left 1
  · obtain rfl : u20 = (.bool true) := hK (20, u20) (by simp) (by kernel_rfl)
    go_wp2
    exact ⟨_, rfl, rfl, Keeps.refl _ _⟩
  refine ⟨_, rfl, fun w2 hk2 hK => ?_, fun u22 => ?_⟩
  rotate_left 1
  simp only [dstOf, Act.put, List.getElem?_toArray, List.getElem?_cons_succ, List.getElem?_cons_zero, Option.bind_some, List.setIfInBounds_toArray, List.set_cons_zero, List.set_cons_succ, List.nil_append, List.cons_append]
  rotate_left 1
  · obtain rfl : u21 = (.bool true) := hK (21, u21) (by simp) (by kernel_rfl)
    go_wp2
    exact ⟨_, rfl, rfl, Keeps.refl _ _⟩
  refine ⟨_, rfl, fun w2 hk2 hK => ?_, fun u23 => ?_⟩
  rotate_left 1
  simp only [dstOf, Act.put, List.getElem?_toArray, List.getElem?_cons_succ, List.getElem?_cons_zero, Option.bind_some, List.setIfInBounds_toArray, List.set_cons_zero, List.set_cons_succ, List.nil_append, List.cons_append]
  rotate_left 1
  · obtain rfl : u21 = (.bool true) := hK (21, u21) (by simp) (by kernel_rfl)
    go_wp2
    exact ⟨_, rfl, rfl, Keeps.refl _ _⟩
  refine ⟨_, rfl, fun w2 hk2 hK => ?_, fun u24 => ?_⟩
  rotate_left 1
  simp only [dstOf, Act.put, List.getElem?_toArray, List.getElem?_cons_succ, List.getElem?_cons_zero, Option.bind_some, List.setIfInBounds_toArray, List.set_cons_zero, List.set_cons_succ, List.nil_append, List.cons_append]
  rotate_left 1
  · obtain rfl : u21 = (.bool true) := hK (21, u21) (by simp) (by kernel_rfl)
    go_wp2
    exact ⟨_, rfl, rfl, Keeps.refl _ _⟩
  refine ⟨_, rfl, fun w2 hk2 hK => ?_, fun u25 => ?_⟩
  rotate_left 1
  simp only [dstOf, Act.put, List.getElem?_toArray, List.getElem?_cons_succ, List.getElem?_cons_zero, Option.bind_some, List.setIfInBounds_toArray, List.set_cons_zero, List.set_cons_succ, List.nil_append, List.cons_append]
  rotate_left 1
  · obtain rfl : u23 = (.agg #[.int .i64 1, .string ⟨#[]⟩]) := hK (23, u23) (by simp) (by kernel_rfl)
    obtain rfl : u24 = (.agg #[.int .i64 148, .string ⟨#[0, 0]⟩]) := hK (24, u24) (by simp) (by kernel_rfl)
    obtain rfl : u21 = (.bool true) := hK (21, u21) (by simp) (by kernel_rfl)
    go_wp2
    exact ⟨_, rfl, XRd.lit2 _ _, (Keeps.refl _ _).alloc _⟩
  refine ⟨_, rfl, fun w2 hk2 hK => ?_, fun u26 => ?_⟩
  rotate_left 1
  simp only [dstOf, Act.put, List.getElem?_toArray, List.getElem?_cons_succ, List.getElem?_cons_zero, Option.bind_some, List.setIfInBounds_toArray, List.set_cons_zero, List.set_cons_succ, List.nil_append, List.cons_append]
  rotate_left 1
  · obtain rfl : u22 = v8 := hK (22, u22) (by simp) (by kernel_rfl)
    have k25 : XRd w2 u25 [⟨1, ⟨#[]⟩⟩, ⟨148, ⟨#[0, 0]⟩⟩] := hK (25, u25) (by simp) (by kernel_rfl)
    obtain rfl : u21 = (.bool true) := hK (21, u21) (by simp) (by kernel_rfl)
    go_wp2_with (refine (exts_any _ _ _ _ (by decide) (hxt.keeps hk2) k25).mono ?_; rintro e w6 ⟨rfl, hk6⟩)
    exact ⟨_, rfl, rfl, hk6⟩
  refine ⟨_, rfl, fun w2 hk2 hK => ?_, fun u27 => ?_⟩
  rotate_left 1
  simp only [dstOf, Act.put, List.getElem?_toArray, List.getElem?_cons_succ, List.getElem?_cons_zero, Option.bind_some, List.setIfInBounds_toArray, List.set_cons_zero, List.set_cons_succ, List.nil_append, List.cons_append]
  rotate_left 1
  · obtain rfl : u21 = (.bool true) := hK (21, u21) (by simp) (by kernel_rfl)
    obtain rfl : u26 = (.bool true) := hK (26, u26) (by simp) (by kernel_rfl)
    go_wp2
    exact ⟨_, rfl, rfl, Keeps.refl _ _⟩
  refine ⟨_, rfl, fun w2 hk2 hK => ?_, fun u28 => ?_⟩
  rotate_left 1
  simp only [dstOf, Act.put, List.getElem?_toArray, List.getElem?_cons_succ, List.getElem?_cons_zero, Option.bind_some, List.setIfInBounds_toArray, List.set_cons_zero, List.set_cons_succ, List.nil_append, List.cons_append]
  rotate_left 1
  · obtain rfl : u27 = (.bool true) := hK (27, u27) (by simp) (by kernel_rfl)
    go_wp2
    exact ⟨_, rfl, rfl, Keeps.refl _ _⟩
  refine ⟨_, rfl, fun w2 hk2 hK => ?_, fun u29 => ?_⟩
  rotate_left 1
  simp only [dstOf, Act.put, List.getElem?_toArray, List.getElem?_cons_succ, List.getElem?_cons_zero, Option.bind_some, List.setIfInBounds_toArray, List.set_cons_zero, List.set_cons_succ, List.nil_append, List.cons_append]
  rotate_left 1
  · obtain rfl : u28 = (.bool true) := hK (28, u28) (by simp) (by kernel_rfl)
    go_wp2
    exact ⟨_, rfl, rfl, Keeps.refl _ _⟩
  refine ⟨_, rfl, fun w2 hk2 hK => ?_, fun u30 => ?_⟩
  rotate_left 1
  simp only [dstOf, Act.put, List.getElem?_toArray, List.getElem?_cons_succ, List.getElem?_cons_zero, Option.bind_some, List.setIfInBounds_toArray, List.set_cons_zero, List.set_cons_succ, List.nil_append, List.cons_append]
  rotate_left 1
  · obtain rfl : u28 = (.bool true) := hK (28, u28) (by simp) (by kernel_rfl)
    go_wp2
    exact ⟨_, rfl, rfl, Keeps.refl _ _⟩
  refine ⟨_, rfl, fun w2 hk2 hK => ?_, fun u31 => ?_⟩
  rotate_left 1
  simp only [dstOf, Act.put, List.getElem?_toArray, List.getElem?_cons_succ, List.getElem?_cons_zero, Option.bind_some, List.setIfInBounds_toArray, List.set_cons_zero, List.set_cons_succ, List.nil_append, List.cons_append]
  rotate_left 1
  · obtain rfl : u29 = (.int .i64 0) := hK (29, u29) (by simp) (by kernel_rfl)
    obtain rfl : u30 = (.int .i64 0) := hK (30, u30) (by simp) (by kernel_rfl)
    obtain rfl : u28 = (.bool true) := hK (28, u28) (by simp) (by kernel_rfl)
    go_wp2
    exact ⟨_, rfl, rfl, Keeps.refl _ _⟩
  refine ⟨_, rfl, fun w2 hk2 hK => ?_, fun u32 => ?_⟩
  rotate_left 1
  simp only [dstOf, Act.put, List.getElem?_toArray, List.getElem?_cons_succ, List.getElem?_cons_zero, Option.bind_some, List.setIfInBounds_toArray, List.set_cons_zero, List.set_cons_succ, List.nil_append, List.cons_append]
  rotate_left 1
  · obtain rfl : u28 = (.bool true) := hK (28, u28) (by simp) (by kernel_rfl)
    obtain rfl : u31 = (.bool true) := hK (31, u31) (by simp) (by kernel_rfl)
    go_wp2
    exact ⟨_, rfl, rfl, Keeps.refl _ _⟩
  refine ⟨_, rfl, fun w2 hk2 hK => ?_, fun u33 => ?_⟩
  rotate_left 1
  simp only [dstOf, Act.put, List.getElem?_toArray, List.getElem?_cons_succ, List.getElem?_cons_zero, Option.bind_some, List.setIfInBounds_toArray, List.set_cons_zero, List.set_cons_succ, List.nil_append, List.cons_append]
  rotate_left 1
  · obtain rfl : u32 = (.bool true) := hK (32, u32) (by simp) (by kernel_rfl)
    go_wp2
    exact ⟨_, rfl, rfl, Keeps.refl _ _⟩
  intro w2 hk2 hK
  obtain rfl : u33 = .bool true := hK (33, u33) (by simp)
  go_wp2
  go_ret
  exact ⟨rfl, hkD.trans hk2 (fun _ _ h => h)⟩
end Go.Proofs.YtjcbbmlloadagaaDoor

/-! The law Ip4Parses. -/
namespace Go.Proofs.YtjcbbmlloadagaaDoor
set_option linter.unusedVariables false
set_option linter.unusedSimpArgs false
open Go.RowKit Go.Proofs.YtjcbbmlloadagaaDoor.PQ

theorem RowAt.p4 {w : World} {b : Nat} {p : P4} {dv : Value} {T : TypeId} (h : RowAt w b (p4cells p dv) T) :
    w.cell? ⟨b, 0, none⟩ = some (.int .i64 p.tos) ∧ w.cell? ⟨b, 1, none⟩ = some (.int .i64 p.id) ∧ w.cell? ⟨b, 2, none⟩ = some (.int .i64 p.ttl) ∧ w.cell? ⟨b, 3, none⟩ = some (.int .i64 p.proto) ∧ w.cell? ⟨b, 4, none⟩ = some (.bool p.df) ∧ w.cell? ⟨b, 5, none⟩ = some (.bool p.mf) ∧
    w.cell? ⟨b, 6, none⟩ = some (.int .i64 p.off) ∧ w.cell? ⟨b, 7, none⟩ = some (.string ⟨p.src.toArray⟩) ∧ w.cell? ⟨b, 8, none⟩ = some (.string ⟨p.dst.toArray⟩) ∧ w.cell? ⟨b, 9, none⟩ = some (.string ⟨p.opt.toArray⟩) ∧ w.cell? ⟨b, 10, none⟩ = some dv :=
  ⟨h.cell 0, h.cell 1, h.cell 2, h.cell 3, h.cell 4, h.cell 5, h.cell 6, h.cell 7, h.cell 8, h.cell 9, h.cell 10⟩

set_option maxRecDepth 100000 in
set_option maxHeartbeats 4000000 in
theorem lparses_any (v : Value) (l m : List UInt8) (w : World) (h : BRd w v l) (hml : m.length ≤ 9223372036854775807) (hg : ErrT w) :
    Calls Tryd.prog 3 #[v, .string ⟨m.toArray⟩] w fun e w' => e = .returned (.bool true) ∧ Keeps (fun _ => False) w w' := by
  obtain ⟨a, cp, rfl, hc, hm⟩ := BAt.slice h
  simp only [maxLen] at hm
  by_cases h1 : 3000 < l.length
  · have h1' : (3000 : Int) < (l.length : Int) := by omega
    go_enter Tryd.func3, Tryd.ntmps3
    go_wp2
    go_ret
    exact ⟨rfl, Keeps.refl _ _⟩
  · have h1' : (l.length : Int) ≤ 3000 := by omega
    by_cases h2 : 300 < m.length
    · have h2' : (300 : Int) < (m.length : Int) := by omega
      go_enter Tryd.func3, Tryd.ntmps3
      go_wp2
      go_ret
      exact ⟨rfl, Keeps.refl _ _⟩
    · have h2' : (m.length : Int) ≤ 300 := by omega
      obtain ⟨P, hP⟩ : ∃ P, P4out l = P := ⟨_, rfl⟩
      obtain ⟨E, hE⟩ : ∃ E, parseE l = E := ⟨_, rfl⟩
      obtain ⟨OL, hOL⟩ : ∃ L, (optF m).1 = L := ⟨_, rfl⟩
      obtain ⟨OE, hOE⟩ : ∃ L, (optF m).2 = L := ⟨_, rfl⟩
      have hOl : OL.length ≤ 100000 := by have := optF_le m; rw [hOL] at this; omega
      obtain ⟨tos, id, ttl, proto, df, mf, off, src, dst, opt, data⟩ := P
      have hrow := (BBAt.one (T := 22) h).low
      have hkr := (Keeps.refl (fun _ => False) w).alloc (.cells #[.slice a l.length cp] 22)
      have HP := Lib.hid hP
      have HE := Lib.hid hE
      have HOL := Lib.hid hOL
      have HOE := Lib.hid hOE
      clear hP hE hOL hOE
      go_enter Tryd.func3, Tryd.ntmps3
      go_wp2_with fail
      refine (both_any _ [l] _ hrow (by simp; omega)).mono ?_
      rintro e w1 ⟨v1, rfl, ho1, hk1⟩
      rw [show [l].flatten = l by simp] at ho1
      have hkA := hkr.trans hk1 (fun _ _ h => h)
      clear hrow hkr hk1
      go_wp2_with fail
      refine (parse_any _ l w1 ho1.bat.low (hg.keeps hkA) (by omega)).mono ?_
      rintro e w2 ⟨d2, rfl, hd2, hk2⟩
      rw [HP.out, HE.out]
      rw [HP.out] at hd2
      have hkB := hkA.trans hk2 (fun _ _ h => h)
      have ho2 := BRd.keeps ho1.bat.low hk2
      clear ho1 hk2 hkA
      go_wp2_with (first | (refine wpList_store_whole rfl 25 (.tmp 6) (.tmp 28) rfl w2.heap.size (p4cells ⟨tos, id, ttl, proto, df, mf, off, src, dst, opt, data⟩ d2) rfl rfl 25 _ 11 (RowAt.new w2 p4zc _) rfl rfl (by kernel_rfl) (p4_one _ _ (by obtain ⟨a, c, rfl, -, -⟩ := BAt.slice hd2; rfl)) (fun w3 hr3 hk3 => ?_)) | (refine (rparse_any _ l _ (h.keeps (((hkB.alloc (.cells p4zc 25)).from hk3 (fun b e => by have := hkB.size; omega)))) (by omega)).mono ?_; rintro e w4 ⟨d4, rfl, hd4, hk4⟩; rw [HP.out, HE.out]; rw [HP.out] at hd4) | (refine wpList_store_whole rfl 25 (.tmp 8) (.tmp 33) rfl w4.heap.size (p4cells ⟨tos, id, ttl, proto, df, mf, off, src, dst, opt, data⟩ d4) rfl rfl 25 _ 11 (RowAt.new w4 p4zc _) rfl rfl (by kernel_rfl) (p4_one _ _ (by obtain ⟨a, c, rfl, -, -⟩ := BAt.slice hd4; rfl)) (fun w5 hr5 hk5 => ?_)) | (refine (opts_any m _ (by omega)).mono ?_; rintro e w6 ⟨v6, rfl, hx6, hk6⟩; rw [HOL.out] at hx6; rw [HOE.out]))
      have hkC : Keeps (fun _ => False) w w3 := (hkB.alloc (.cells p4zc 25)).from hk3 (fun b e => by have := hkB.size; omega)
      have hk23 : Keeps (fun _ => False) w2 w3 := ((Keeps.refl (fun _ => False) w2).alloc (.cells p4zc 25)).from hk3 (fun b e => by omega)
      have hk45 : Keeps (fun _ => False) w4 w5 := ((Keeps.refl (fun _ => False) w4).alloc (.cells p4zc 25)).from hk5 (fun b e => by omega)
      have hk46 := hk45.trans hk6 (fun _ _ h => h)
      have hk36 := hk4.trans hk46 (fun _ _ h => h)
      have hd6 := hd4.keeps hk46
      have hr6 := hr5.keeps hk6 (fun h => h)
      have hr36 := hr3.keeps hk36 (fun h => h)
      have hd26 := hd2.keeps (hk23.trans hk36 (fun _ _ h => h))
      have ho6 := ho2.keeps (hk23.trans hk36 (fun _ _ h => h))
      have hkD := hkC.trans hk36 (fun _ _ h => h)
      clear hr5 hr3 hk3 hk5 hk4 hk6 hk45 hk46 hk36 hkC hk23 hd2 hd4 ho2 hkB
      refine (ropts_any m _ (by omega)).mono ?_
      rintro e w7 ⟨v7, rfl, hx7, hk7⟩
      rw [HOL.out] at hx7
      rw [HOE.out]
      obtain ⟨s1, z1, rfl, -, -⟩ := BAt.slice ho6
      go_wp2_with (first | (go_at_call 13; refine (awake_any _ (hg.keeps (hkD.trans hk7 (fun _ _ h => h)))).mono ?_; rintro e w8 ⟨rfl, hk8⟩; have hk68 := hk7.trans hk8 (fun _ _ h => h); have t1 := (BRd.keeps ho6 hk68).text; have t2 := (BRd.keeps h (hkD.trans hk68 (fun _ _ h => h))).text; obtain ⟨f0, f1, f2, f3, f4, f5, f6, f7, f8, f9, f10⟩ := (hr36.keeps hk68 (fun h => h)).p4; obtain ⟨e0, e1, e2, e3, e4, e5, e6, e7, e8, e9, e10⟩ := (hr6.keeps hk68 (fun h => h)).p4) | (go_at_call 14; refine (same4_any ⟨tos, id, ttl, proto, df, mf, off, src, dst, opt, data⟩ d2 d4 _ (hd26.keeps hk68) (hd6.keeps hk68)).mono ?_; rintro e w9 ⟨rfl, hk9⟩; clear t1 t2 e0 e1 e2 e3 e4 e5 e6 e7 e8 e9 e10 f0 f1 f2 f3 f4 f5 f6 f7 f8 f9 f10) | (go_at_call 15; refine (exts_any _ _ OL _ hOl (hx6.keeps (hk68.trans hk9 (fun _ _ h => h))) (hx7.keeps (hk8.trans hk9 (fun _ _ h => h)))).mono ?_; rintro e w10 ⟨rfl, hk10⟩))
      go_ret
      exact ⟨rfl, ((hkD.trans hk68 (fun _ _ h => h)).trans hk9 (fun _ _ h => h)).trans hk10 (fun _ _ h => h)⟩

theorem lparses_row (v : Value) (l : List UInt8) (s : ByteArray) (w : World) (h : BAt w (· < w.heap.size) v l) (hs : s.size ≤ maxLen) (hg : ErrT w) :
    Calls Tryd.prog 3 #[v, .string s] w fun e w' => e = .returned (.bool true) ∧ Keeps (fun _ => False) w w' := by
  have hl : s.data.toList.length = s.size := by rw [Array.length_toList]; rfl
  have e : (⟨s.data.toList.toArray⟩ : ByteArray) = s := by cases s; simp
  have := lparses_any v l s.data.toList w h (by rw [hl]; unfold maxLen at hs; omega) hg
  rwa [e] at this
end Go.Proofs.YtjcbbmlloadagaaDoor
