/- Words, walks and plain laws that the claim leans on, part 18. -/
import Derived.Test.YtngpbihnmgjniaaDoorM6
import Derived.Test.YtngpbihnmgjniaaDoorM7
import Derived.Test.YtngpbihnmgjniaaDoorM11
import Derived.Test.YtngpbihnmgjniaaDoorM13
import Derived.Test.YtngpbihnmgjniaaDoorM14
import Derived.Test.YtngpbihnmgjniaaDoorM15
import Derived.Test.YtngpbihnmgjniaaDoorM17

/-! split.Later: the options that all pieces have. -/
namespace Go.Proofs.YtngpbihnmgjniaaDoor
set_option linter.unusedVariables false
set_option linter.unusedSimpArgs false
open Go.RowKit Go.Proofs.YtngpbihnmgjniaaDoor.PQ Go.Proofs.YtngpbihnmgjniaaDoorW.PrintWords

/-- The cells of an option that is read. -/
theorem XRd.at {w : World} {L : List S53} {A : Option Addr} (h : Kd.C k53 w A L.length L) (i : Nat) (hi : i < L.length) :
    ∃ ad, A = some ad ∧ w.cell? (ad.add (i * 2)) = some (.int .i64 L[i].f0) ∧ w.cell? ⟨(ad.add (i * 2)).block, (ad.add (i * 2)).off + 1, none⟩ = some (.string L[i].f1) := by
  obtain ⟨ad, c, e, _, hK, hc0⟩ := Kd.C_get h z53 (i : Int) (by omega) (by omega)
  rw [Int.toNat_natCast] at hc0 hK
  have hg : L.getD i z53 = L[i] := by rw [List.getD_eq_getElem?_getD, List.getElem?_eq_getElem hi]; rfl
  rw [hg] at hK
  have hc : ∀ j u, c[j]? = some u → w.cell? (ad.add (i * 2 + j)) = some u := hc0
  obtain rfl := k53_open hK
  exact ⟨ad, e, hc 0 _ rfl, by rw [← add_field _ _ 1 (by omega)]; exact hc 1 _ rfl⟩

/-- What Later tells. -/
def laterO (m : List UInt8) : List UInt8 := match optS m.length m with
  | some L => laterP L
  | none => []

theorem laterB_snoc (L : List S53) (o : S53) : laterB (L ++ [o]) = laterB L ++ (if 128 ≤ o.f0 then UInt8.ofNat o.f0.toNat :: UInt8.ofNat (o.f1.size + 2) :: o.f1.data.toList else []) := by
  unfold laterB
  rw [List.filter_append, List.flatMap_append]
  by_cases h : 128 ≤ o.f0 <;> simp [h]

/-- A text's bytes behind bytes. -/
theorem run_append_text {w : World} {base : Nat} {v : Value} {l : List UInt8} (s : ByteArray) {ty : TypeId} (hown : BOwn w base v l) (hmax : l.length + s.size ≤ 140737488355328) (hbase : base ≤ w.heap.size) :
    ∃ v' w', (Builtin.append_ #[22, 9] ty #[v, .string s]).run Tryd.prog w = .ok v' w' ∧ BOwn w' base v' (l ++ s.data.toList) ∧ Keeps (fun b => v.ownBlock = some b) w w' ∧
      (v'.ownBlock = v.ownBlock ∨ ∃ b, v'.ownBlock = some b ∧ w.heap.size ≤ b) := by
  obtain ⟨i, hi, hz, hs, hb⟩ := info_parts info_u8
  obtain ⟨v', w', hr, ha⟩ := run_append (P := Tryd.prog) (ty := ty) (tx := 9) Tryd.underlying22 hi hz hs hb (by rfl) hown (Src.ofString _ Tryd.underlying9 s)
    (by simp only [maxLen]; omega) (by omega) hbase
  have e : byteCells s = bcells s.data.toList := rfl
  have e2 : s.size = s.data.toList.length := by rw [Array.length_toList]; rfl
  exact ⟨v', w', hr, by have := ha.own; rwa [e, e2, ← bcells_append, ← List.length_append] at this, ha.keeps, ha.place⟩

theorem u8_wrap (x : Int) (h : 0 ≤ x) : IntKind.u8.wrap x = ((UInt8.ofNat x.toNat).toNat : Int) := by
  have e : IntKind.u8.wrap x = x % 256 := rfl
  rw [e, UInt8.toNat_ofNat']
  omega

theorem neg_and3 (n : Nat) (h : n ≤ 4294967296) : bits .and .i64 (-(n : Int)) 3 = (((4 - n % 4) % 4 : Nat) : Int) := by
  show IntKind.i64.wrap ((BitVec.ofInt 64 (-(n : Int)) &&& BitVec.ofInt 64 (3 : Int)).toNat : Int) = _
  rw [BitVec.toNat_and, BitVec.toNat_ofInt, show (BitVec.ofInt 64 (3 : Int)).toNat = 2 ^ 2 - 1 from rfl, Nat.and_two_pow_sub_one_eq_mod, i64_fit _ (by omega) (by omega)]
  omega
theorem ba_append (l m : List UInt8) : ByteArray.mk l.toArray ++ ByteArray.mk m.toArray = ⟨(l ++ m).toArray⟩ := by
  apply ByteArray.ext
  rw [ByteArray.data_append]
  simp
theorem repeatL_zero (c : Nat) : Lib.repeatL [0] c = List.replicate c 0 := by
  induction c with
  | zero => rfl
  | succ c ih => rw [Lib.repeatL, ih]; rfl
theorem laterB_append (L M : List S53) : laterB (L ++ M) = laterB L ++ laterB M := by
  unfold laterB
  rw [List.filter_append, List.flatMap_append]
theorem laterB_le (L M : List S53) : (laterB L).length ≤ (laterB (L ++ M)).length := by
  rw [laterB_append, List.length_append]
  omega

set_option maxRecDepth 100000 in
set_option maxHeartbeats 4000000 in
theorem later_any (m : List UInt8) (w : World) (hm : m.length ≤ 100000) :
    Calls Tryd.prog 13 #[.string ⟨m.toArray⟩] w fun e w' => e = .returned (.tuple #[.string ⟨(laterO m).toArray⟩, .int .i64 (optF m).2]) ∧ Keeps (fun _ => False) w w' := by
  have hopt := opts_any m w hm
  cases hq : optS m.length m with
  | none =>
    have e1 : optF m = ([], 4) := by unfold optF; rw [hq]
    have e2 : laterO m = [] := by unfold laterO; rw [hq]
    rw [e1] at hopt ⊢
    rw [e2]
    go_enter Tryd.func13, Tryd.ntmps13
    go_wp2_with (refine hopt.mono ?_; rintro e w1 ⟨v, rfl, -, hk1⟩)
    go_ret2
    exact ⟨rfl, hk1⟩
  | some L =>
    have e1 : optF m = (L, 0) := by unfold optF; rw [hq]
    have e2 : laterO m = laterP L := by unfold laterO; rw [hq]
    have hLm : (laterB L).length ≤ 100000 := Nat.le_trans (laterB_len _ _ _ hq) hm
    have hLl : L.length ≤ 100000 := by have := optF_le m; rw [e1] at this; simp only at this; omega
    rw [e1] at hopt ⊢
    rw [e2]
    have HLM := Lib.hid hLm
    have HPAD : Hid (laterB L ++ List.replicate ((4 - (laterB L).length % 4) % 4) 0 = laterP L) := Lib.hid rfl
    clear hq e1 e2 hLm
    go_enter Tryd.func13, Tryd.ntmps13
    go_wp2_with (refine hopt.mono ?_; rintro e w1 ⟨v, rfl, hx, hk1⟩; obtain ⟨A, c, rfl, hc, hC⟩ := hx)
    go_loopw [6, 19] (fun u6 u19 wr => ∃ i : Nat, i ≤ L.length ∧ u19 = .int .i64 i ∧ BOwn wr w1.heap.size u6 (laterB (L.take i)) ∧ Keeps (fun _ => False) w1 wr) (fun _ u19 _ => L.length - (intOf u19).toNat)
    case atStart => exact ⟨0, by omega, rfl, BOwn.nil _ _, Keeps.refl _ _⟩
    case round =>
      obtain ⟨i, hi, rfl, ho, hkw⟩ := hrel
      by_cases hlt : i < L.length
      · obtain ⟨ad, rfl, q0, q1⟩ := XRd.at (Kd.C_below hC (hkw.below _ (Nat.le_refl _) (fun _ _ h => h))) i hlt
        have hlti : (i : Int) < (L.length : Int) := by omega
        have hsn := laterB_snoc (L.take i) L[i]
        rw [← List.take_succ_eq_append_getElem hlt] at hsn
        obtain ⟨F0, hF0⟩ : ∃ F0, L[i].f0 = F0 := ⟨_, rfl⟩
        obtain ⟨F1, hF1⟩ : ∃ F1, L[i].f1 = F1 := ⟨_, rfl⟩
        rw [hF0] at q0 hsn
        rw [hF1] at q1 hsn
        have hwz := hkw.size
        obtain ⟨q, hq⟩ : ∃ q, wr.heap.size = q := ⟨_, rfl⟩
        have HS := Lib.hid hsn
        clear hsn hF0 hF1
        by_cases h128 : F0 < 128
        · go_wp2
          go_roundw
          case rel => exact ⟨i + 1, by omega, by go_num, by rw [HS.out, if_neg (by omega), List.append_nil]; exact ho.keeps ((Keeps.refl (fun _ => False) _).alloc _) (fun _ _ h => h), hkw.alloc _⟩
          case measure => simp [intOf]; omega
        · have h128' : 128 ≤ F0 := by omega
          have hF1 : F1.size ≤ 100000 := by
            have h1 := laterB_le (L.take (i + 1)) (L.drop (i + 1))
            rw [List.take_append_drop, HS.out, if_pos h128'] at h1
            have := HLM.out
            simp only [List.length_append, List.length_cons, Array.length_toList] at h1
            have : F1.data.size = F1.size := rfl
            omega
          obtain ⟨N2, hN2⟩ : ∃ N2 : Nat, F1.size + 2 = N2 := ⟨_, rfl⟩
          have q2 : IntKind.i64.wrap ((F1.size : Int) + 2) = (N2 : Int) := by rw [i64_fit _ (by omega) (by omega)]; omega
          obtain ⟨x0, hx0⟩ : ∃ x, UInt8.ofNat F0.toNat = x := ⟨_, rfl⟩
          obtain ⟨x1, hx1⟩ : ∃ x, UInt8.ofNat N2 = x := ⟨_, rfl⟩
          have q3 := u8_wrap F0 (by omega)
          have q4 := u8_wrap (N2 : Int) (by omega)
          rw [Int.toNat_natCast, hx1] at q4
          rw [hx0] at q3
          rw [hN2, if_pos h128', hx0, hx1] at HS
          clear hx0 hx1
          have hr0 := RowAt.new wr #[.int .i64 F0, .string F1] 53
          have ho0 := ho.keeps ((Keeps.refl (fun _ => False) wr).alloc (.cells #[.int .i64 F0, .string F1] 53)) (fun _ _ h => h)
          have hkw0 := hkw.alloc (.cells #[.int .i64 F0, .string F1] 53)
          rw [hq] at hr0
          have hqb : u6.ownBlock ≠ some q := fun e => by have := (ho.block q e).2; omega
          go_wp2
          generalize wr.alloc (.cells #[.int .i64 F0, .string F1] 53) = W at *
          refine region_T [] (fun x => x.cell? ⟨q, 0, none⟩ = some (.int .i64 F0) ∧ x.cell? ⟨q, 1, none⟩ = some (.string F1)) (by kernel_rfl) ?_
          have hC : (fun x : World => x.cell? ⟨q, 0, none⟩ = some (.int .i64 F0) ∧ x.cell? ⟨q, 1, none⟩ = some (.string F1)) W.drew := hr0.two
          refine anyT_take0 (i := 0) (v := ?_) rfl (by kernel_rfl) (by kernel_rfl) (by kernel_rfl) (by kernel_rfl) (by kernel_rfl) (fun _ _ _ h => h) hC (.inl ⟨by rfl, fun _ _ => ?_⟩) ?_
          rotate_left 1
          · go_simp
            try with_reducible rfl
          simp only [Act.put, List.getElem_toArray, List.getElem_cons_succ, List.getElem_cons_zero, List.setIfInBounds_toArray, List.set_cons_zero, List.set_cons_succ]
          refine anyT_take0 (i := 1) (v := ?_) rfl (by kernel_rfl) (by kernel_rfl) (by kernel_rfl) (by kernel_rfl) (by kernel_rfl) (fun _ _ _ h => h) hC (.inl ⟨by rfl, fun _ _ => ?_⟩) ?_
          rotate_left 1
          · go_simp
            try with_reducible rfl
          simp only [Act.put, List.getElem_toArray, List.getElem_cons_succ, List.getElem_cons_zero, List.setIfInBounds_toArray, List.set_cons_zero, List.set_cons_succ]
          refine anyT_takeC (i := 2) (v := ?_) rfl (by kernel_rfl) (by kernel_rfl) (by kernel_rfl) (by kernel_rfl) (by kernel_rfl) (by kernel_rfl) (fun _ _ _ h => h) hC (.inl ⟨by rfl, fun w hCw => ?_⟩) ?_
          rotate_left 1
          · dsimp only at hCw
            go_simp
            try with_reducible rfl
          simp only [Act.put, List.getElem_toArray, List.getElem_cons_succ, List.getElem_cons_zero, List.setIfInBounds_toArray, List.set_cons_zero, List.set_cons_succ]
          refine anyT_take0 (i := 3) (v := ?_) rfl (by kernel_rfl) (by kernel_rfl) (by kernel_rfl) (by kernel_rfl) (by kernel_rfl) (fun _ _ _ h => h) hC (.inl ⟨by rfl, fun _ _ => ?_⟩) ?_
          rotate_left 1
          · go_simp
            try with_reducible rfl
          simp only [Act.put, List.getElem_toArray, List.getElem_cons_succ, List.getElem_cons_zero, List.setIfInBounds_toArray, List.set_cons_zero, List.set_cons_succ]
          refine anyT_take0 (i := 4) (v := ?_) rfl (by kernel_rfl) (by kernel_rfl) (by kernel_rfl) (by kernel_rfl) (by kernel_rfl) (fun _ _ _ h => h) hC (.inl ⟨by rfl, fun _ _ => ?_⟩) ?_
          rotate_left 1
          · go_simp
            try with_reducible rfl
          simp only [Act.put, List.getElem_toArray, List.getElem_cons_succ, List.getElem_cons_zero, List.setIfInBounds_toArray, List.set_cons_zero, List.set_cons_succ]
          refine anyT_takeC (i := 5) (v := ?_) rfl (by kernel_rfl) (by kernel_rfl) (by kernel_rfl) (by kernel_rfl) (by kernel_rfl) (by kernel_rfl) (fun _ _ _ h => h) hC (.inl ⟨by rfl, fun w hCw => ?_⟩) ?_
          rotate_left 1
          · dsimp only at hCw
            go_simp
            try with_reducible rfl
          simp only [Act.put, List.getElem_toArray, List.getElem_cons_succ, List.getElem_cons_zero, List.setIfInBounds_toArray, List.set_cons_zero, List.set_cons_succ]
          refine anyT_take0 (i := 6) (v := ?_) rfl (by kernel_rfl) (by kernel_rfl) (by kernel_rfl) (by kernel_rfl) (by kernel_rfl) (fun _ _ _ h => h) hC (.inl ⟨by rfl, fun _ _ => ?_⟩) ?_
          rotate_left 1
          · go_simp
            try with_reducible rfl
          simp only [Act.put, List.getElem_toArray, List.getElem_cons_succ, List.getElem_cons_zero, List.setIfInBounds_toArray, List.set_cons_zero, List.set_cons_succ]
          refine anyT_take0 (i := 7) (v := ?_) rfl (by kernel_rfl) (by kernel_rfl) (by kernel_rfl) (by kernel_rfl) (by kernel_rfl) (fun _ _ _ h => h) hC (.inl ⟨by rfl, fun _ _ => ?_⟩) ?_
          rotate_left 1
          · go_simp
            try with_reducible rfl
          simp only [Act.put, List.getElem_toArray, List.getElem_cons_succ, List.getElem_cons_zero, List.setIfInBounds_toArray, List.set_cons_zero, List.set_cons_succ]
          refine anyT_take0 (i := 8) (v := ?_) rfl (by kernel_rfl) (by kernel_rfl) (by kernel_rfl) (by kernel_rfl) (by kernel_rfl) (fun _ _ _ h => h) hC (.inl ⟨by rfl, fun _ _ => ?_⟩) ?_
          rotate_left 1
          · go_simp
            try with_reducible rfl
          simp only [Act.put, List.getElem_toArray, List.getElem_cons_succ, List.getElem_cons_zero, List.setIfInBounds_toArray, List.set_cons_zero, List.set_cons_succ]
          refine anyT_take0 (i := 11) (v := ?_) rfl (by kernel_rfl) (by kernel_rfl) (by kernel_rfl) (by kernel_rfl) (by kernel_rfl) (fun _ _ _ h => h) hC (.inl ⟨by rfl, fun _ _ => ?_⟩) ?_
          rotate_left 1
          · go_simp
            try with_reducible rfl
          simp only [Act.put, List.getElem_toArray, List.getElem_cons_succ, List.getElem_cons_zero, List.setIfInBounds_toArray, List.set_cons_zero, List.set_cons_succ]
          refine anyT_takeC (i := 12) (v := ?_) rfl (by kernel_rfl) (by kernel_rfl) (by kernel_rfl) (by kernel_rfl) (by kernel_rfl) (by kernel_rfl) (fun _ _ _ h => h) hC (.inl ⟨by rfl, fun w hCw => ?_⟩) ?_
          rotate_left 1
          · dsimp only at hCw
            go_simp
            try with_reducible rfl
          simp only [Act.put, List.getElem_toArray, List.getElem_cons_succ, List.getElem_cons_zero, List.setIfInBounds_toArray, List.set_cons_zero, List.set_cons_succ]
          have hlit := BAt.lit W #[.int .u8 (x0.toNat : Int), .int .u8 (x1.toNat : Int)] [x0, x1] 2 5 rfl rfl (by decide)
          have hp1 := ((Keeps.refl (fun _ => False) W).alloc (.cells #[.int .u8 (x0.toNat : Int), .int .u8 (x1.toNat : Int)] 5)).drew
          have hlit' := hlit.keeps (Keeps.refl (fun _ => False) _).drew (fun _ _ h => h)
          have hsz : laterB (L.take (i + 1)) = laterB (L.take i) ++ [x0, x1] ++ F1.data.toList := by rw [HS.out]; simp
          have hbig := laterB_le (L.take (i + 1)) (L.drop (i + 1))
          rw [List.take_append_drop] at hbig
          have hbig2 := Nat.le_trans hbig HLM.out
          have h2 := congrArg List.length hsz
          simp only [List.length_append, List.length_cons, List.length_nil, Array.length_toList] at h2
          have e9 : F1.data.size = F1.size := rfl
          have hwW := hkw0.size
          have hww := hk1.size
          obtain ⟨v1, w2, hrun1, ho2, hk2, hpl⟩ := run_append_bytes (ty := 22) (ho0.keeps hp1 (fun _ _ h => h)) hlit' (by simp only [List.length_cons, List.length_nil]; omega) (by have := hp1.size; omega)
          have hkA := hp1
          have hr2 := (hr0.keeps hkA (fun h => h)).keeps hk2 (fun e => hqb e)
          have hkB := hkw0.trans hkA (fun _ _ h => h)
          have hww2 := hk2.size
          have hwwA := hkA.size
          obtain ⟨v2, w3, hrun2, ho3, hk3, -⟩ := run_append_text (ty := 22) F1 ho2 (by simp only [List.length_append, List.length_cons, List.length_nil]; omega) (by omega)
          have hqb2 : v1.ownBlock ≠ some q := fun e => by
            rcases hpl with h | ⟨b, h, h'⟩
            · exact hqb (h ▸ e)
            · rw [h] at e
              have := hr0.lt
              have e' : b = q := by simpa using e
              omega
          have hr3 := hr2.keeps hk3 (fun e => hqb2 e)
          have hkC := hkB.from hk2 (fun b hb => (ho0.block b hb).1)
          have hkD := hkC.from hk3 (fun b hb => (ho2.block b hb).1)
          rw [← hsz] at ho3
          have HR1 := Lib.hid hrun1
          have HR2 := Lib.hid hrun2
          have hC2 := hr2.two
          have hC3 := hr3.two
          have hCA := (hr0.keeps hkA (fun h => h)).two
          clear hrun1 hrun2 hsz h2 hpl hlit hlit' ho2 hk3 hk2 hkA hp1 ho0
          refine anyT_force (i := 9) rfl (by kernel_rfl) (by rfl) ?_
          go_simp
          refine anyT_force (i := 10) rfl (by kernel_rfl) (by rfl) ?_
          refine Lib.wp_append_run _ _ _ _ _ rfl _ _ rfl rfl _ _ HR1.out ?_
          refine ⟨fun _ => hC2, ?_⟩
          simp only [Act.put, List.getElem_toArray, List.getElem_cons_succ, List.getElem_cons_zero, List.setIfInBounds_toArray, List.set_cons_zero, List.set_cons_succ]
          refine anyT_force (i := 13) rfl (by kernel_rfl) (by rfl) ?_
          refine Lib.wp_append_run _ _ _ _ _ rfl _ _ rfl rfl _ _ HR2.out ?_
          refine ⟨fun _ => hC3, ?_⟩
          simp only [Act.put, List.getElem_toArray, List.getElem_cons_succ, List.getElem_cons_zero, List.setIfInBounds_toArray, List.set_cons_zero, List.set_cons_succ]
          have hC := hC3
          refine anyT_take0 (i := 14) (v := ?_) rfl (by kernel_rfl) (by kernel_rfl) (by kernel_rfl) (by kernel_rfl) (by kernel_rfl) (fun _ _ _ h => h) hC (.inl ⟨by rfl, fun _ _ => ?_⟩) ?_
          rotate_left 1
          · go_simp
            try with_reducible rfl
          simp only [Act.put, List.getElem_toArray, List.getElem_cons_succ, List.getElem_cons_zero, List.setIfInBounds_toArray, List.set_cons_zero, List.set_cons_succ]
          refine (show anyT _ _ _ _ _ _ 0 _ _ _ from ⟨by kernel_rfl, ?_⟩)
          go_wp2
          go_roundw
          case rel => exact ⟨i + 1, by omega, by go_num, ho3, hkD⟩
          case measure => simp [intOf]; omega
      · have hlt' : (L.length : Int) ≤ (i : Int) := by omega
        rw [List.take_of_length_le (by omega)] at ho
        obtain ⟨a6, c6, rfl, -, -⟩ := BOwn.slice ho
        have hLM := HLM.out
        have hpad := HPAD.out
        generalize laterB L = B at *
        have q1 := i64_fit (-(B.length : Int)) (by omega) (by omega)
        have q2 := neg_and3 B.length (by omega)
        obtain ⟨C, hC'⟩ : ∃ C, (4 - B.length % 4) % 4 = C := ⟨_, rfl⟩
        rw [hC'] at q2 hpad
        have hC4 : C < 4 := by omega
        obtain ⟨Z, hZ⟩ : ∃ Z : List UInt8, List.replicate C 0 = Z := ⟨_, rfl⟩
        have hZl : Z.length = C := by rw [← hZ, List.length_replicate]
        rw [hZ] at hpad
        have hrep : Lib.repeatL [0] C = Z := by rw [repeatL_zero, hZ]
        have HP := Lib.hid hpad
        have HREP := Lib.hid hrep
        have hno : ¬ 9223372036854775807 < B.length + Z.length := by omega
        clear hC' hpad HPAD hZ hZl hrep
        have HX := Lib.hid (fun (x : World) (hx : Keeps (fun _ => False) wr x) => (ho.keeps hx (fun _ _ h => h)).bat.text)
        go_wp2
        refine region_T [] (fun x => Keeps (fun _ => False) wr x) (by kernel_rfl) ?_
        have hC : (fun x : World => Keeps (fun _ => False) wr x) wr.drew := (Keeps.refl _ _).drew
        refine anyT_take0 (i := 0) (v := ?_) rfl (by kernel_rfl) (by kernel_rfl) (by kernel_rfl) (by kernel_rfl) (by kernel_rfl) (fun _ _ _ h => h) hC (.inl ⟨by rfl, fun _ _ => ?_⟩) ?_
        rotate_left 1
        · go_simp
          try with_reducible rfl
        simp only [Act.put, List.getElem_toArray, List.getElem_cons_succ, List.getElem_cons_zero, List.setIfInBounds_toArray, List.set_cons_zero, List.set_cons_succ]
        refine anyT_takeC (i := 1) (v := .string ⟨B.toArray⟩) rfl (by kernel_rfl) (by kernel_rfl) (by kernel_rfl) (by kernel_rfl) (by kernel_rfl) (by kernel_rfl) (fun _ _ _ h => h) hC (.inl ⟨by rfl, fun w hCw => ?_⟩) ?_
        · have hTX := HX.out w hCw
          go_simp
        simp only [Act.put, List.getElem_toArray, List.getElem_cons_succ, List.getElem_cons_zero, List.setIfInBounds_toArray, List.set_cons_zero, List.set_cons_succ]
        refine anyT_take0 (i := 2) (v := ?_) rfl (by kernel_rfl) (by kernel_rfl) (by kernel_rfl) (by kernel_rfl) (by kernel_rfl) (fun _ _ _ h => h) hC (.inl ⟨by rfl, fun _ _ => ?_⟩) ?_
        rotate_left 1
        · go_simp
          try with_reducible rfl
        simp only [Act.put, List.getElem_toArray, List.getElem_cons_succ, List.getElem_cons_zero, List.setIfInBounds_toArray, List.set_cons_zero, List.set_cons_succ]
        refine anyT_take0 (i := 3) (v := ?_) rfl (by kernel_rfl) (by kernel_rfl) (by kernel_rfl) (by kernel_rfl) (by kernel_rfl) (fun _ _ _ h => h) hC (.inl ⟨by rfl, fun _ _ => ?_⟩) ?_
        rotate_left 1
        · go_simp
          try with_reducible rfl
        simp only [Act.put, List.getElem_toArray, List.getElem_cons_succ, List.getElem_cons_zero, List.setIfInBounds_toArray, List.set_cons_zero, List.set_cons_succ]
        refine anyT_take0 (i := 4) (v := ?_) rfl (by kernel_rfl) (by kernel_rfl) (by kernel_rfl) (by kernel_rfl) (by kernel_rfl) (fun _ _ _ h => h) hC (.inl ⟨by rfl, fun _ _ => ?_⟩) ?_
        rotate_left 1
        · go_simp
          try with_reducible rfl
        simp only [Act.put, List.getElem_toArray, List.getElem_cons_succ, List.getElem_cons_zero, List.setIfInBounds_toArray, List.set_cons_zero, List.set_cons_succ]
        refine anyT_take0 (i := 5) (v := ?_) rfl (by kernel_rfl) (by kernel_rfl) (by kernel_rfl) (by kernel_rfl) (by kernel_rfl) (fun _ _ _ h => h) hC (.inl ⟨by rfl, fun _ _ => ?_⟩) ?_
        rotate_left 1
        · go_simp
          try with_reducible rfl
        simp only [Act.put, List.getElem_toArray, List.getElem_cons_succ, List.getElem_cons_zero, List.setIfInBounds_toArray, List.set_cons_zero, List.set_cons_succ]
        refine anyT_force (i := 6) rfl (by kernel_rfl) (by rfl) ?_
        go_simp
        refine (repeat_any ⟨#[0]⟩ C _ (by omega) (by show 1 * C ≤ _; omega)).mono ?_
        rintro e w4 ⟨rfl, hk4⟩
        rw [show (⟨#[0]⟩ : ByteArray).data.toList = [0] from rfl, HREP.out]
        have hkz : Keeps (fun _ => False) wr w4 := (Keeps.refl (fun _ => False) wr).drew.trans hk4 (fun _ _ h => h)
        refine ⟨fun _ => hkz, ?_⟩
        have hC := hkz
        refine anyT_take0 (i := 7) (v := ?_) rfl (by kernel_rfl) (by kernel_rfl) (by kernel_rfl) (by kernel_rfl) (by kernel_rfl) (fun _ _ _ h => h) hC (.inl ⟨by rfl, fun _ _ => ?_⟩) ?_
        rotate_left 1
        · go_simp
          try with_reducible rfl
        simp only [Act.put, List.getElem_toArray, List.getElem_cons_succ, List.getElem_cons_zero, List.setIfInBounds_toArray, List.set_cons_zero, List.set_cons_succ]
        refine anyT_take0 (i := 8) (v := ?_) rfl (by kernel_rfl) (by kernel_rfl) (by kernel_rfl) (by kernel_rfl) (by kernel_rfl) (fun _ _ _ h => h) hC (.inl ⟨by rfl, fun _ _ => ?_⟩) ?_
        rotate_left 1
        · go_simp
          try with_reducible rfl
        simp only [Act.put, List.getElem_toArray, List.getElem_cons_succ, List.getElem_cons_zero, List.setIfInBounds_toArray, List.set_cons_zero, List.set_cons_succ]
        refine anyT_take0 (i := 9) (v := ?_) rfl (by kernel_rfl) (by kernel_rfl) (by kernel_rfl) (by kernel_rfl) (by kernel_rfl) (fun _ _ _ h => h) hC (.inl ⟨by rfl, fun _ _ => ?_⟩) ?_
        rotate_left 1
        · go_simp
          try with_reducible rfl
        simp only [Act.put, List.getElem_toArray, List.getElem_cons_succ, List.getElem_cons_zero, List.setIfInBounds_toArray, List.set_cons_zero, List.set_cons_succ]
        refine (show anyT _ _ _ _ _ _ 0 _ _ _ from ⟨by kernel_rfl, ?_⟩)
        go_wp2
        go_ret2
        exact ⟨by rw [ba_append, HP.out]; rfl, (hk1.trans hkw (fun _ _ h => h)).trans hkz (fun _ _ h => h)⟩
end Go.Proofs.YtngpbihnmgjniaaDoor

/-! Words for slices of packets. -/
namespace Go.Proofs.YtngpbihnmgjniaaDoor
set_option linter.unusedVariables false
set_option linter.unusedSimpArgs false
open Go.RowKit

def flatC (qs : List (P4 × Value)) : List Value := qs.flatMap fun q => (p4cells q.1 q.2).toList
theorem flatC_append (a b : List (P4 × Value)) : flatC (a ++ b) = flatC a ++ flatC b := by simp [flatC]
theorem flatC_length : ∀ qs : List (P4 × Value), (flatC qs).length = qs.length * 11
  | [] => rfl
  | q :: qs => by
    have := flatC_length qs
    unfold flatC at *
    rw [List.flatMap_cons, List.length_append, this, List.length_cons]
    show 11 + _ = _
    omega
theorem flatC_get : ∀ (qs : List (P4 × Value)) (i : Nat) (q : P4 × Value) (k : Nat), qs[i]? = some q → k < 11 → (flatC qs)[i * 11 + k]? = (p4cells q.1 q.2)[k]?
  | [], i, q, k, h, _ => by simp at h
  | q' :: qs, 0, q, k, h, hk => by
    obtain rfl : q' = q := by simpa using h
    unfold flatC
    rw [List.flatMap_cons, Nat.zero_mul, Nat.zero_add, List.getElem?_append_left (by show k < 11; exact hk), Array.getElem?_toList]
  | q' :: qs, i + 1, q, k, h, hk => by
    have := flatC_get qs i q k (by simpa using h) hk
    unfold flatC at *
    rw [List.flatMap_cons, List.getElem?_append_right (by show 11 ≤ _; omega)]
    show _[(i + 1) * 11 + k - 11]? = _
    rw [show (i + 1) * 11 + k - 11 = i * 11 + k by omega, this]

/-- v is the call's own row of packets; what they hold lies elsewhere. -/
def POwn (w : World) (base : Nat) (v : Value) (qs : List (P4 × Value)) : Prop :=
  Own w base 24 11 v qs.length (flatC qs) ∧ ∀ q ∈ qs, BAt w (fun b => v.ownBlock ≠ some b) q.2 q.1.data
theorem POwn.nil (w : World) (base : Nat) : POwn w base (.slice none 0 0) [] := ⟨Own.nil w base _ 11, fun _ h => by cases h⟩
theorem POwn.keeps {w w' : World} {base : Nat} {v : Value} {qs : List (P4 × Value)} (h : POwn w base v qs) (hk : Keeps (fun _ => False) w w') : POwn w' base v qs :=
  ⟨Own.keeps h.1 hk (fun _ _ h => h), fun q hq => (h.2 q hq).keeps hk (fun _ _ h => h)⟩
theorem BAt.ltHeap {w : World} {p : Nat → Prop} {v : Value} {l : List UInt8} (h : BAt w p v l) : BAt w (fun b => p b ∧ b < w.heap.size) v l := SAt.lt h

theorem info_p4 : (Tryd.prog.info? 24).map (fun i => (i.zero, i.size, i.bytes)) = some (some (.agg #[.int .i64 0, .int .i64 0, .int .i64 0, .int .i64 0, .bool false, .bool false, .int .i64 0, .string ⟨#[]⟩, .string ⟨#[]⟩, .string ⟨#[]⟩, .slice none 0 0]), 11, 120) := by kernel_rfl

/-- A packet behind packets. -/
theorem run_append_p4 {w : World} {base : Nat} {v x : Value} {qs : List (P4 × Value)} {p : P4} {dv : Value} {X : Nat → Prop} {ty : TypeId} (hown : POwn w base v qs) (h1 : dv.oneCell' = true)
    (hx : SAt w X 11 x 1 (p4cells p dv).toList) (hd : BAt w (fun b => v.ownBlock ≠ some b) dv p.data) (hmax : qs.length ≤ 200000) (hbase : base ≤ w.heap.size) :
    ∃ v' w', (Builtin.append_ #[26, 26] ty #[v, x]).run Tryd.prog w = .ok v' w' ∧ POwn w' base v' (qs ++ [(p, dv)]) ∧ Keeps (fun b => v.ownBlock = some b) w w' ∧
      (v'.ownBlock = v.ownBlock ∨ ∃ b, v'.ownBlock = some b ∧ w.heap.size ≤ b) := by
  obtain ⟨i, hi, hz, hs, hb⟩ := info_parts info_p4
  obtain ⟨v', w', hr, ha⟩ := run_append (P := Tryd.prog) (ty := ty) (tx := 26) Tryd.underlying26 hi hz hs hb (by rfl) hown.1 (SAt.src Tryd.underlying26 hx (fun u hu => by
    have := Array.all_eq_true_iff_forall_mem.1 (p4_one p dv h1) u (by simpa using hu)
    exact this) (by omega))
    (by simp only [maxLen]; omega) (by omega) hbase
  have stay : ∀ (q : P4 × Value), BAt w (fun b => v.ownBlock ≠ some b) q.2 q.1.data → BAt w' (fun b => v'.ownBlock ≠ some b) q.2 q.1.data := fun q hq =>
    (hq.ltHeap.keeps ha.keeps (fun b hb => hb.1)).mono fun b hb e => by
      rcases ha.place with h | ⟨b', h, h'⟩
      · exact hb.1 (h ▸ e)
      · rw [h] at e
        have : b' = b := by simpa using e
        have := hb.2
        omega
  refine ⟨v', w', hr, ⟨?_, fun q hq => ?_⟩, ha.keeps, ha.place⟩
  · have := ha.own
    rw [flatC_append, List.length_append]
    simpa [flatC] using this
  · rcases List.mem_append.1 hq with hq | hq
    · exact stay q (hown.2 q hq)
    · obtain rfl := List.mem_singleton.1 hq
      exact stay _ hd

/-- v reads these packets. -/
def PRd (w : World) (v : Value) (L : List P4) : Prop :=
  ∃ qs : List (P4 × Value), qs.map (·.1) = L ∧ SAt w (· < w.heap.size) 11 v L.length (flatC qs) ∧ ∀ q ∈ qs, BRd w q.2 q.1.data
theorem PRd.keeps {w w' : World} {v : Value} {L : List P4} (h : PRd w v L) (hk : Keeps (fun _ => False) w w') : PRd w' v L := by
  obtain ⟨qs, h1, h2, h3⟩ := h
  exact ⟨qs, h1, (SAt.keeps h2 hk (fun _ _ h => h)).mono fun b hb => Nat.lt_of_lt_of_le hb hk.size, fun q hq => (h3 q hq).keeps hk⟩
theorem POwn.reads {w : World} {base : Nat} {v : Value} {qs : List (P4 × Value)} (h : POwn w base v qs) : PRd w v (qs.map (·.1)) :=
  ⟨qs, rfl, by rw [List.length_map]; exact (SAt.lt (Own.sat h.1)).mono fun _ h => h.2, fun q hq => (h.2 q hq).low⟩
theorem PRd.slice {w : World} {v : Value} {L : List P4} (h : PRd w v L) : ∃ a c, v = .slice a L.length c ∧ L.length ≤ c ∧ c ≤ maxLen := by
  obtain ⟨qs, h1, h2, h3⟩ := h
  exact SAt.slice h2
/-- A packet of a row: its cells. -/
theorem PRd.at {w : World} {a : Option Addr} {n c : Nat} {L : List P4} (h : PRd w (.slice a n c) L) (i : Nat) (hi : i < L.length) :
    ∃ b off dv, a = some ⟨b, off, none⟩ ∧ BRd w dv L[i].data ∧ ∀ k, k < 11 → w.cell? ⟨b, off + i * 11 + k, none⟩ = (p4cells L[i] dv)[k]? := by
  obtain ⟨qs, rfl, ⟨h1, a', c', e, h3, h4, h5⟩, h6⟩ := h
  rw [List.length_map] at hi h1
  simp only [Value.slice.injEq] at e
  obtain ⟨rfl, -, rfl⟩ := e
  rcases h5 with h5 | ⟨b, off, hb, rfl, hc⟩
  · rw [h5] at h1; simp at h1; omega
  · obtain ⟨q, hq⟩ : ∃ q, qs[i]? = some q := ⟨_, List.getElem?_eq_getElem hi⟩
    have hg : (qs.map (·.1))[i]'(by simpa using hi) = q.1 := by
      rw [List.getElem_map]
      rw [List.getElem?_eq_getElem hi] at hq
      rw [Option.some.inj hq]
    rw [hg]
    refine ⟨b, off, q.2, rfl, h6 q (List.mem_of_getElem? hq), fun k hk => ?_⟩
    have hf := flatC_get qs i q k hq hk
    have hk' : k < (p4cells q.1 q.2).size := hk
    rw [Array.getElem?_eq_getElem hk'] at hf ⊢
    rw [Nat.add_assoc]
    exact hc _ _ hf
theorem PRd.nil (w : World) : PRd w (.slice none 0 0) [] := ⟨[], rfl, SAt.nil w _ 11, fun _ h => by cases h⟩
/-- A row of one packet, just laid. -/
theorem PRd.one {w : World} {p : P4} {dv : Value} {T : TypeId} (hd : BRd w dv p.data) : PRd (w.alloc (.cells (p4cells p dv) T)) (.slice (some ⟨w.heap.size, 0, none⟩) 1 1) [p] := by
  have hk := (Keeps.refl (fun _ => False) w).alloc (.cells (p4cells p dv) T)
  refine ⟨[(p, dv)], rfl, ⟨rfl, some ⟨w.heap.size, 0, none⟩, 1, rfl, by simp, by simp [maxLen], .inr ⟨w.heap.size, 0, by show _ < (w.heap.push _).size; simp, rfl, fun j u hu => ?_⟩⟩, fun q hq => ?_⟩
  · rw [(RowAt.new w _ _).cell, Nat.zero_add]
    have e : flatC [(p, dv)] = (p4cells p dv).toList := by simp [flatC]
    rw [e, Array.getElem?_toList] at hu
    exact hu
  · obtain rfl := List.mem_singleton.1 hq
    exact hd.keeps hk
theorem sat_one (w : World) (p : P4) (dv : Value) (T : TypeId) : SAt (w.alloc (.cells (p4cells p dv) T)) (fun _ => True) 11 (.slice (some ⟨w.heap.size, 0, none⟩) 1 1) 1 (p4cells p dv).toList :=
  ⟨rfl, some ⟨w.heap.size, 0, none⟩, 1, rfl, by simp, by simp [maxLen], .inr ⟨w.heap.size, 0, trivial, rfl, fun j u hu => by
    rw [(RowAt.new w _ _).cell, Nat.zero_add]
    rw [Array.getElem?_toList] at hu
    exact hu⟩⟩
end Go.Proofs.YtngpbihnmgjniaaDoor

/-! split.pieces: the pieces of a packet that is too big. -/
namespace Go.Proofs.YtngpbihnmgjniaaDoor
set_option linter.unusedVariables false
set_option linter.unusedSimpArgs false
open Go.RowKit

theorem RowAt.p4 {w : World} {b : Nat} {p : P4} {dv : Value} {T : TypeId} (h : RowAt w b (p4cells p dv) T) :
    w.cell? ⟨b, 0, none⟩ = some (.int .i64 p.tos) ∧ w.cell? ⟨b, 1, none⟩ = some (.int .i64 p.id) ∧ w.cell? ⟨b, 2, none⟩ = some (.int .i64 p.ttl) ∧ w.cell? ⟨b, 3, none⟩ = some (.int .i64 p.proto) ∧ w.cell? ⟨b, 4, none⟩ = some (.bool p.df) ∧ w.cell? ⟨b, 5, none⟩ = some (.bool p.mf) ∧
    w.cell? ⟨b, 6, none⟩ = some (.int .i64 p.off) ∧ w.cell? ⟨b, 7, none⟩ = some (.string ⟨p.src.toArray⟩) ∧ w.cell? ⟨b, 8, none⟩ = some (.string ⟨p.dst.toArray⟩) ∧ w.cell? ⟨b, 9, none⟩ = some (.string ⟨p.opt.toArray⟩) ∧ w.cell? ⟨b, 10, none⟩ = some dv :=
  ⟨h.cell 0, h.cell 1, h.cell 2, h.cell 3, h.cell 4, h.cell 5, h.cell 6, h.cell 7, h.cell 8, h.cell 9, h.cell 10⟩

theorem wp_store_whole {P : Program} {o : Oper} {a : Act} {w : World} {K : Act → World → Prop} {Q : Exit → Act → World → Prop} (ty : TypeId) (x y : Operand) (ho : o.op = .store ty x y)
    (g : Nat) (cells : Array Value) (hx : a.eval x = .pointer (some ⟨g, 0, none⟩)) (hy : a.eval y = .agg cells) (t : TypeId) (old : Array Value) (n : Nat) (hg : RowAt w g old t)
    (hn : cells.size = n) (hs : old.size = n) (hi : (P.info? ty).map (·.size) = some n) (h1 : cells.all (·.oneCell') = true)
    (h : ∀ w', RowAt w' g cells t → Keeps (· = g) w w' → K (a.put o.dst undef) w') : o.wp P a w K Q := by
  subst hn
  refine wp_store_mid ty x y ho g 0 cells hx hy (fun j hj => ?_) hi h1 (h _ (hg.setCells_whole hs) (Keeps.setCells (S := (· = g)) (.inl rfl) _ _ _ (Keeps.refl _ _)))
  rw [Nat.zero_add]
  refine ⟨?_, hg.frozen j⟩
  rw [hg.cell, Array.getElem?_eq_getElem (by omega)]
  rfl

theorem load_p4 {w : World} {b : Nat} {p : P4} {dv : Value} (h : RowAt w b (p4cells p dv) 24) : (Instr.loadAt 24 (.pointer (some ⟨b, 0, none⟩))).run Tryd.prog w = .ok (.agg (p4cells p dv)) w :=
  run_loadAt_mid w b 0 24 (p4cells p dv).toList _ (fun j v hv => by rw [Nat.zero_add, h.cell, ← Array.getElem?_toList]; exact hv) Tryd.underlying24 rfl (by kernel_rfl)

/-- How the pieces are told. -/
def Pieced (base : Nat) (v : Value) (qs : List (P4 × Value)) (o : Option (List P4)) (w : World) (e : Ending) (w' : World) : Prop :=
  Keeps (fun b => v.ownBlock = some b) w w' ∧ match o with
  | none => e = .returned (.tuple #[.slice none 0 0, .int .i64 2])
  | some L => ∃ v' qs', e = .returned (.tuple #[v', .int .i64 0]) ∧ qs'.map (·.1) = qs.map (·.1) ++ L ∧ POwn w' base v' qs'

set_option maxRecDepth 100000 in
set_option maxHeartbeats 4000000 in
theorem pieces_any (mtu : Nat) (hm : 68 ≤ mtu) (hm2 : mtu ≤ 9223372036854775807) (later : List UInt8) (hl : later.length ≤ 40) (base : Nat) : ∀ (f : Nat) (p : P4) (dv v : Value) (qs : List (P4 × Value)) (w : World),
    p.data.length < f → p.opt.length ≤ 40 → -4611686018427387904 ≤ p.off → p.off + p.data.length ≤ 4611686018427387904 → base ≤ w.heap.size → BAt w (· < base) dv p.data → POwn w base v qs → qs.length + f ≤ 100010 →
    Calls Tryd.prog 14 #[.agg (p4cells p dv), .int .i64 mtu, .string ⟨later.toArray⟩, v] w (Pieced base v qs (piecesF f p mtu later) w) := by
  intro f
  induction f with
  | zero => intro p dv v qs w h; omega
  | succ f ih =>
    intro p dv v qs w hf ho hmin hmax hb hd hown hq
    obtain ⟨da, dc, rfl, hdc, hdm⟩ := hd.slice
    simp only [maxLen] at hdm
    have hvb : ∀ b, v.ownBlock = some b → base ≤ b ∧ b < w.heap.size := Own.block hown.1
    have hdl : p.data.length ≤ 100010 := by omega
    by_cases hhigh : 65528 < p.off
    · have hp : piecesF (f + 1) p mtu later = none := by unfold piecesF; rw [if_pos hhigh]
      rw [hp]
      clear ih hp
      unfold Pieced
      obtain ⟨tos, id, ttl, proto, df, mf, off, src, dst, opt, data⟩ := p
      simp only at hhigh hd hdc ho hmin hmax
      unfold p4cells txt
      go_enter Tryd.func14, Tryd.ntmps14
      go_wp2
      go_ret2
      exact ⟨(Keeps.refl _ _).alloc _, rfl⟩
    · obtain ⟨R, hR⟩ : ∃ R, mtu - 20 - p.opt.length = R := ⟨_, rfl⟩
      have hlow : p.off ≤ 65528 := by omega
      have q1 := i64_fit ((mtu : Int) - 20) (by omega) (by omega)
      have q2 : IntKind.i64.wrap ((mtu : Int) - 20 - (p.opt.length : Int)) = (R : Int) := by rw [i64_fit _ (by omega) (by omega)]; omega
      have hR8 : 8 ≤ R := by omega
      by_cases hle : p.data.length ≤ R
      · have hp : piecesF (f + 1) p mtu later = some [p] := by unfold piecesF; rw [if_neg hhigh, if_pos (by omega)]
        rw [hp]
        clear ih hp hhigh hf
        unfold Pieced
        have hk0 := (Keeps.refl (fun _ => False) w).alloc (.cells (p4cells p (.slice da p.data.length dc)) 24)
        have hr0 := RowAt.new w (p4cells p (.slice da p.data.length dc)) 24
        have hcl := clone_any _ p.data _ _ (hd.keeps hk0 (fun _ _ h => h)) (by omega)
        obtain ⟨tos, id, ttl, proto, df, mf, off, src, dst, opt, data⟩ := p
        simp only at hd hdc ho hmin hmax q2 hlow hR hle hdl hk0 hr0 hcl ⊢
        unfold p4cells txt
        unfold p4cells txt at hk0 hcl
        simp only at hk0 hcl ⊢
        have hle' : (data.length : Int) ≤ (R : Int) := by omega
        have HR := Lib.hid hR
        clear hR
        obtain ⟨q, hq'⟩ : ∃ q, w.heap.size = q := ⟨_, rfl⟩
        go_enter Tryd.func14, Tryd.ntmps14
        go_wp2_with fail
        refine hcl.mono ?_
        rintro e w2 ⟨v2, rfl, ho2, hk2⟩
        have hr2 := hr0.keeps hk2 (fun h => h)
        obtain ⟨a2, z2, rfl, hz2, -⟩ := BOwn.slice ho2
        have hkA := hk0.trans hk2 (fun _ _ h => h)
        have hB2 : BAt w2 (fun b => w.heap.size < b) (.slice a2 data.length z2) data := ho2.ge.mono fun b hb => by
          have h9 := hk0.size
          have : ∀ o : Obj, (w.alloc o).heap.size = w.heap.size + 1 := fun o => Array.size_push _
          rw [this] at hb
          omega
        clear hk0 hr0 hcl hk2 ho2
        rw [hq'] at hr2 hB2
        obtain ⟨c0, c1, c2, c3, c4, c5, c6, c7, c8, c9, c10⟩ := hr2.p4
        have hf2 := hr2.frozen 10
        simp only at c0 c1 c2 c3 c4 c5 c6 c7 c8 c9 c10
        have hkB := hkA.setCell ⟨q, 10, none⟩ (.slice a2 data.length z2) (.inr (by show _ ≤ q; omega))
        have hr3 : RowAt (w2.setCell ⟨q, 10, none⟩ (.slice a2 data.length z2)) q (p4cells ⟨tos, id, ttl, proto, df, mf, off, src, dst, opt, data⟩ (.slice a2 data.length z2)) 24 := (hr2.set 10 _).eq rfl
        have hB3 := hB2.keeps ((Keeps.refl (· = q) w2).setCell ⟨q, 10, none⟩ (.slice a2 data.length z2) (.inl rfl)) (fun b hb e => by subst e; omega)
        obtain ⟨W, hW⟩ : ∃ W, w2.setCell ⟨q, 10, none⟩ (.slice a2 data.length z2) = W := ⟨_, rfl⟩
        have hWs : W.heap.size = w2.heap.size := by rw [← hW]; simp [World.setCell]
        rw [hW] at hkB hr3 hB3
        have hkC := hkB.alloc (.cells (p4cells ⟨tos, id, ttl, proto, df, mf, off, src, dst, opt, data⟩ (.slice a2 data.length z2)) 24)
        obtain ⟨v5, w5, hrun, ho5, hk5, -⟩ := run_append_p4 (ty := 26) (p := ⟨tos, id, ttl, proto, df, mf, off, src, dst, opt, data⟩) (hown.keeps hkC) rfl (sat_one W _ _ _)
          ((hB3.keeps ((Keeps.refl (fun _ => False) W).alloc _) (fun _ _ h => h)).mono (fun b hb e => by have := (hvb b e).2; omega)) (by omega) (by have := hkC.size; omega)
        rw [hWs, ← hW] at hrun
        have HR5 := Lib.hid hrun
        have hkE : Keeps (fun b => v.ownBlock = some b) w w5 := hkC.mono (fun _ _ h => h.elim) |>.trans hk5 (fun _ _ h => h)
        clear hrun hkC hB3 hr3 hkB hW hWs hk5 hvb hown hkA hB2
        go_wp2_with (at_builtin; refine Lib.wpList_append_run _ rfl _ _ _ _ rfl _ _ rfl rfl _ _ HR5.out ?_)
        go_ret2
        exact ⟨hkE, _, _, rfl, by simp, ho5⟩
      · obtain ⟨D, hD⟩ : ∃ D, R / 8 = D := ⟨_, rfl⟩
        obtain ⟨n, hn⟩ : ∃ n, D * 8 = n := ⟨_, rfl⟩
        have hn8 : 8 ≤ n := by omega
        have hnR : n ≤ R := by omega
        have hp : piecesF (f + 1) p mtu later = (piecesF f { p with off := p.off + (n : Nat), opt := later, data := p.data.drop n } mtu later).map ({ p with mf := true, data := p.data.take n } :: ·) := by
          conv => lhs; unfold piecesF
          rw [if_neg hhigh, hR, if_neg hle, hD, hn]
        rw [hp]
        have q3 : (R : Int).tdiv 8 = (D : Int) := by rw [Int.tdiv_eq_ediv_of_nonneg (by omega)]; omega
        have q4 : IntKind.i64.wrap (D : Int) = (D : Int) := i64_fit _ (by omega) (by omega)
        have q5 : IntKind.i64.wrap ((D : Int) * 8) = (n : Int) := by rw [i64_fit _ (by omega) (by omega)]; omega
        have q6 : IntKind.i64.wrap (p.off + (n : Int)) = p.off + (n : Int) := i64_fit _ (by omega) (by omega)
        obtain ⟨db, do_, cc, e, -, -, hdb, -⟩ := hd.get (by omega)
        simp only [Value.slice.injEq] at e
        obtain ⟨rfl, -, rfl⟩ := e
        obtain ⟨o2, e2, hdrop, -⟩ := BAt.cut hd n (by omega)
        have hcn : ¬ dc = n := by omega
        rw [if_neg hcn] at e2
        simp only [Option.some.injEq, Addr.mk.injEq, and_true, true_and] at e2
        subst e2
        have htake := BAt.take hd n (by omega)
        have hnl : (n : Int) ≤ (p.data.length : Int) := by omega
        have hnc : (n : Int) ≤ (dc : Int) := by omega
        have hlen1 : (p.data.take n).length = n := by rw [List.length_take]; omega
        have hlen2 : (p.data.drop n).length = p.data.length - n := List.length_drop
        have hle' : ¬ (p.data.length : Int) ≤ (R : Int) := by omega
        have hgt' : (R : Int) < (p.data.length : Int) := by omega
        obtain ⟨q, hq'⟩ : ∃ q, w.heap.size = q := ⟨_, rfl⟩
        have hk0 := (Keeps.refl (fun _ => False) w).alloc (.cells (p4cells p (.slice (some ⟨db, do_, none⟩) p.data.length dc)) 24)
        have hr0 := RowAt.new w (p4cells p (.slice (some ⟨db, do_, none⟩) p.data.length dc)) 24
        obtain ⟨tos, id, ttl, proto, df, mf, off, src, dst, opt, data⟩ := p
        simp only at hd hdc ho hmin hmax q2 q6 hlow hR hle hle' hgt' hdl hf hn hD hhigh hnl hnc hlen1 hlen2 hdrop htake hk0 hr0 ⊢
        obtain ⟨T1, hT1⟩ : ∃ T1, data.take n = T1 := ⟨_, rfl⟩
        obtain ⟨T2, hT2⟩ : ∃ T2, data.drop n = T2 := ⟨_, rfl⟩
        rw [hT1] at htake hlen1 hp ⊢
        rw [hT2] at hdrop hlen2 hp ⊢
        have HP := Lib.hid hp
        have HN := Lib.hid (And.intro hn8 (And.intro hnR (And.intro hlen1 hlen2)))
        have HI := Lib.hid (And.intro hf (And.intro hq (And.intro hmin hmax)))
        have IH := Lib.hid ih
        unfold p4cells txt
        simp only
        clear hT1 hT2 hp hn hD hR hn8 hnR hle hhigh hlen1 hlen2 ih hf hq hmin hmax
        rw [hq'] at hr0
        go_enter Tryd.func14, Tryd.ntmps14
        go_wp2
        unfold p4cells txt at hk0
        simp only at hk0
        have hr0' : RowAt (w.alloc (.cells #[.int .i64 tos, .int .i64 id, .int .i64 ttl, .int .i64 proto, .bool df, .bool mf, .int .i64 off, .string ⟨src.toArray⟩, .string ⟨dst.toArray⟩, .string ⟨opt.toArray⟩, .slice (some ⟨db, do_, none⟩) data.length dc] 24)) q (p4cells ⟨tos, id, ttl, proto, df, mf, off, src, dst, opt, data⟩ (.slice (some ⟨db, do_, none⟩) data.length dc)) 24 := hr0
        clear hr0
        generalize w.alloc (.cells #[.int .i64 tos, .int .i64 id, .int .i64 ttl, .int .i64 proto, .bool df, .bool mf, .int .i64 off, .string ⟨src.toArray⟩, .string ⟨dst.toArray⟩, .string ⟨opt.toArray⟩, .slice (some ⟨db, do_, none⟩) data.length dc] 24) = W at *
        refine region_T [5] (fun x => RowAt x q (p4cells ⟨tos, id, ttl, proto, df, mf, off, src, dst, opt, data⟩ (.slice (some ⟨db, do_, none⟩) data.length dc)) 24) (by kernel_rfl) ?_
        have hC : (fun x : World => RowAt x q (p4cells ⟨tos, id, ttl, proto, df, mf, off, src, dst, opt, data⟩ (.slice (some ⟨db, do_, none⟩) data.length dc)) 24) W.drew := hr0'.drew
        refine anyT_takeW (i := 0) (v := .agg (p4cells ⟨tos, id, ttl, proto, df, mf, off, src, dst, opt, data⟩ (.slice (some ⟨db, do_, none⟩) data.length dc))) rfl (by kernel_rfl) (by kernel_rfl) (by kernel_rfl) (by kernel_rfl) (by kernel_rfl) (by kernel_rfl) (fun _ _ _ h => h) hC (.inl ⟨by rfl, fun w hCw => ?_⟩) ?_
        · obtain ⟨c0, c1, c2, c3, c4, c5, c6, c7, c8, c9, c10⟩ := RowAt.p4 hCw
          simp only at c0 c1 c2 c3 c4 c5 c6 c7 c8 c9 c10
          go_simp
          rfl
        simp only [Act.put, List.getElem_toArray, List.getElem_cons_succ, List.getElem_cons_zero, List.setIfInBounds_toArray, List.set_cons_zero, List.set_cons_succ]
        refine anyT_takeW (i := 1) (v := .agg (p4cells ⟨tos, id, ttl, proto, df, mf, off, src, dst, opt, data⟩ (.slice (some ⟨db, do_, none⟩) data.length dc))) rfl (by kernel_rfl) (by kernel_rfl) (by kernel_rfl) (by kernel_rfl) (by kernel_rfl) (by kernel_rfl) (fun _ _ _ h => h) hC (.inl ⟨by rfl, fun w hCw => ?_⟩) ?_
        · obtain ⟨c0, c1, c2, c3, c4, c5, c6, c7, c8, c9, c10⟩ := RowAt.p4 hCw
          simp only at c0 c1 c2 c3 c4 c5 c6 c7 c8 c9 c10
          go_simp
          rfl
        simp only [Act.put, List.getElem_toArray, List.getElem_cons_succ, List.getElem_cons_zero, List.setIfInBounds_toArray, List.set_cons_zero, List.set_cons_succ]
        obtain ⟨s, hs⟩ : ∃ s, W.heap.size = s := ⟨_, rfl⟩
        have hqs : q < s := by have := hr0'.lt; omega
        refine anyT_fork (i := 2) (j := 3) rfl rfl (by kernel_rfl) (by rfl) (by rfl) ?_ ?_
        · have hr1 : RowAt (W.alloc (.cells #[.int .i64 0, .int .i64 0, .int .i64 0, .int .i64 0, .bool false, .bool false, .int .i64 0, .string ⟨#[]⟩, .string ⟨#[]⟩, .string ⟨#[]⟩, .slice none 0 0] 24)).drew s p4zc 24 := hs ▸ (RowAt.new W _ _).drew
          have hC : RowAt (W.alloc (.cells #[.int .i64 0, .int .i64 0, .int .i64 0, .int .i64 0, .bool false, .bool false, .int .i64 0, .string ⟨#[]⟩, .string ⟨#[]⟩, .string ⟨#[]⟩, .slice none 0 0] 24)).drew q (p4cells ⟨tos, id, ttl, proto, df, mf, off, src, dst, opt, data⟩ (.slice (some ⟨db, do_, none⟩) data.length dc)) 24 := (hr0'.alloc _).drew
          have hk1 := (hk0.alloc (.cells #[.int .i64 0, .int .i64 0, .int .i64 0, .int .i64 0, .bool false, .bool false, .int .i64 0, .string ⟨#[]⟩, .string ⟨#[]⟩, .string ⟨#[]⟩, .slice none 0 0] 24)).drew
          have hs1 : (W.alloc (.cells #[.int .i64 0, .int .i64 0, .int .i64 0, .int .i64 0, .bool false, .bool false, .int .i64 0, .string ⟨#[]⟩, .string ⟨#[]⟩, .string ⟨#[]⟩, .slice none 0 0] 24)).drew.heap.size = s + 1 := hs ▸ Array.size_push _
          go_simp
          generalize (W.alloc (.cells #[.int .i64 0, .int .i64 0, .int .i64 0, .int .i64 0, .bool false, .bool false, .int .i64 0, .string ⟨#[]⟩, .string ⟨#[]⟩, .string ⟨#[]⟩, .slice none 0 0] 24)).drew = W1 at *
          have hrB : RowAt (W1.alloc (.cells #[.int .i64 0, .int .i64 0, .int .i64 0, .int .i64 0, .bool false, .bool false, .int .i64 0, .string ⟨#[]⟩, .string ⟨#[]⟩, .string ⟨#[]⟩, .slice none 0 0] 24)) (s + 1) p4zc 24 := hs1 ▸ RowAt.new W1 _ _
          have hC2 : RowAt (W1.alloc (.cells #[.int .i64 0, .int .i64 0, .int .i64 0, .int .i64 0, .bool false, .bool false, .int .i64 0, .string ⟨#[]⟩, .string ⟨#[]⟩, .string ⟨#[]⟩, .slice none 0 0] 24)) q (p4cells ⟨tos, id, ttl, proto, df, mf, off, src, dst, opt, data⟩ (.slice (some ⟨db, do_, none⟩) data.length dc)) 24 := hC.alloc _
          have hrA : RowAt (W1.alloc (.cells #[.int .i64 0, .int .i64 0, .int .i64 0, .int .i64 0, .bool false, .bool false, .int .i64 0, .string ⟨#[]⟩, .string ⟨#[]⟩, .string ⟨#[]⟩, .slice none 0 0] 24)) s p4zc 24 := hr1.alloc _
          have hk2 := hk1.alloc (.cells #[.int .i64 0, .int .i64 0, .int .i64 0, .int .i64 0, .bool false, .bool false, .int .i64 0, .string ⟨#[]⟩, .string ⟨#[]⟩, .string ⟨#[]⟩, .slice none 0 0] 24)
          refine anyT_force (i := 3) rfl (by kernel_rfl) (by rfl) ?_
          go_simp
          first | refine ⟨fun _ => hC2, ?_⟩ | skip
          generalize W1.alloc (.cells #[.int .i64 0, .int .i64 0, .int .i64 0, .int .i64 0, .bool false, .bool false, .int .i64 0, .string ⟨#[]⟩, .string ⟨#[]⟩, .string ⟨#[]⟩, .slice none 0 0] 24) = W2 at *
          obtain ⟨x, hx⟩ : ∃ x, s + 1 = x := ⟨_, rfl⟩
          rw [hx] at hrB ⊢
          have hne : s ≠ x := by omega
          have hn2 : q ≠ s := by omega
          have hn3 : q ≠ x := by omega
          have g2 : w.heap.size ≤ s := by omega
          have g3 : w.heap.size ≤ x := by omega
          clear hr1 hC hk1 hs1 hx hr0' hk0 hs hqs
          refine anyT_force (i := 4) rfl (by kernel_rfl) (by rfl) ?_
          refine wp_store_whole 24 (.tmp 12) (.tmp 39) rfl s (p4cells ⟨tos, id, ttl, proto, df, mf, off, src, dst, opt, data⟩ (.slice (some ⟨db, do_, none⟩) data.length dc)) rfl rfl 24 _ 11 hrA rfl rfl (by kernel_rfl) (p4_one _ _ rfl) (fun W3 hr12 hk3 => ?_)
          have hrq := hC2.keeps hk3 hn2
          refine ⟨fun _ => hrq, ?_⟩
          have hr13 := hrB.keeps hk3 (Ne.symm hne)
          have hkB := hk2.from hk3 (fun b e => by omega)
          clear hrA hrB hC2 hk2 hk3
          simp only [Act.put, List.getElem_toArray, List.getElem_cons_succ, List.getElem_cons_zero, List.setIfInBounds_toArray, List.set_cons_zero, List.set_cons_succ]
          refine anyT_tail (k := 5) (by rfl) (by kernel_rfl) (by simp) rfl rfl (by kernel_rfl) ?_
          refine wpList_store_whole rfl 24 (.tmp 13) (.tmp 40) rfl x (p4cells ⟨tos, id, ttl, proto, df, mf, off, src, dst, opt, data⟩ (.slice (some ⟨db, do_, none⟩) data.length dc)) rfl rfl 24 _ 11 hr13 rfl rfl (by kernel_rfl) (p4_one _ _ rfl) (fun W4 hr13' hk4 => ?_)
          have hrq4 := hrq.keeps hk4 hn3
          have hr12' := hr12.keeps hk4 hne
          have hkC := hkB.from hk4 (fun b e => by omega)
          clear hr12 hr13 hrq hkB hk4
          obtain ⟨c0, c1, c2, c3, c4, c5, c6, c7, c8, c9, c10⟩ := hrq4.p4
          simp only at c0 c1 c2 c3 c4 c5 c6 c7 c8 c9 c10
          go_wp2_with fail
          have hnn := HN.out
          have hi9 := HI.out
          refine (clone_any _ T1 W4 _ (htake.keeps hkC (fun _ _ h => h)) (by omega)).mono ?_
          rintro e W5 ⟨v5, rfl, ho5, hk5⟩
          obtain ⟨a5, z5, e5, hz5, -⟩ := BOwn.slice ho5
          rw [hnn.2.2.1] at e5
          subst e5
          have hrq5 := hrq4.keeps hk5 (fun h => h)
          have hr125 := hr12'.keeps hk5 (fun h => h)
          have hr135 := hr13'.keeps hk5 (fun h => h)
          have hkD := hkC.trans hk5 (fun _ _ h => h)
          have hb5 := (ho5.keeps (Keeps.refl (fun _ => False) W5) (fun _ _ h => h)).ge
          have hlA := hr12'.lt
          have hlB := hr13'.lt
          have hlQ := hrq4.lt
          have hg4 := hkC.size
          clear c0 c1 c2 c3 c4 c5 c6 c7 c8 c9 c10 ho5 hk5 hr12' hr13' hrq4 hkC
          obtain ⟨d0, d1, d2, d3, d4, d5, d6, d7, d8, d9, d10⟩ := hr125.p4
          have fz5 := hr125.frozen 5
          have fz10 := hr125.frozen 10
          obtain ⟨c0, c1, c2, c3, c4, c5, c6, c7, c8, c9, c10⟩ := hrq5.p4
          simp only at c0 c1 c2 c3 c4 c5 c6 c7 c8 c9 c10 d0 d1 d2 d3 d4 d5 d6 d7 d8 d9 d10
          have hrq6 := (hrq5.setOther ⟨s, 5, none⟩ (.bool true) hn2).setOther ⟨s, 10, none⟩ (.slice a5 n z5) hn2
          have hr136 := (hr135.setOther ⟨s, 5, none⟩ (.bool true) (Ne.symm hne)).setOther ⟨s, 10, none⟩ (.slice a5 n z5) (Ne.symm hne)
          have hr126 : RowAt ((W5.setCell ⟨s, 5, none⟩ (.bool true)).setCell ⟨s, 10, none⟩ (.slice a5 n z5)) s (p4cells ⟨tos, id, ttl, proto, df, true, off, src, dst, opt, T1⟩ (.slice a5 n z5)) 24 := ((hr125.set 5 _).set 10 _).eq rfl
          have hk56 := ((Keeps.refl (· = s) W5).setCell ⟨s, 5, none⟩ (.bool true) (.inl rfl)).setCell ⟨s, 10, none⟩ (.slice a5 n z5) (.inl rfl)
          have hkE := hkD.from hk56 (fun b e => by omega)
          have hb6 := hb5.keeps hk56 (fun b hb e => by omega)
          go_wp2
          generalize (W5.setCell ⟨s, 5, none⟩ (.bool true)).setCell ⟨s, 10, none⟩ (.slice a5 n z5) = W6 at *
          clear d0 d1 d2 d3 d4 d5 d6 d7 d8 d9 d10 c0 c1 c2 c3 c4 c5 c6 c7 c8 c9 c10 fz5 fz10 hk56 hb5 hkD hr125 hr135 hrq5
          have hC6 : W6.drew.cell? ⟨q, 6, none⟩ = some (.int .i64 off) ∧ W6.drew.cell? ⟨q, 10, none⟩ = some (.slice (some ⟨db, do_, none⟩) data.length dc) := by
            obtain ⟨c0, c1, c2, c3, c4, c5, c6, c7, c8, c9, c10⟩ := hrq6.p4
            exact ⟨c6, c10⟩
          refine region_T [] (fun x => x.cell? ⟨q, 6, none⟩ = some (.int .i64 off) ∧ x.cell? ⟨q, 10, none⟩ = some (.slice (some ⟨db, do_, none⟩) data.length dc)) (by kernel_rfl) ?_
          have hC := hC6
          refine anyT_take0 (i := 0) (v := ?_) rfl (by kernel_rfl) (by kernel_rfl) (by kernel_rfl) (by kernel_rfl) (by kernel_rfl) (fun _ _ _ h => h) hC (.inl ⟨by rfl, fun _ _ => ?_⟩) ?_
          rotate_left 1
          · go_simp
            try with_reducible rfl
          simp only [Act.put, List.getElem_toArray, List.getElem_cons_succ, List.getElem_cons_zero, List.setIfInBounds_toArray, List.set_cons_zero, List.set_cons_succ]
          refine anyT_takeC (i := 1) (v := ?_) rfl (by kernel_rfl) (by kernel_rfl) (by kernel_rfl) (by kernel_rfl) (by kernel_rfl) (by kernel_rfl) (fun _ _ _ h => h) hC (.inl ⟨by rfl, fun w hCw => ?_⟩) ?_
          rotate_left 1
          · dsimp only at hCw
            go_simp
            try with_reducible rfl
          simp only [Act.put, List.getElem_toArray, List.getElem_cons_succ, List.getElem_cons_zero, List.setIfInBounds_toArray, List.set_cons_zero, List.set_cons_succ]
          refine anyT_take0 (i := 2) (v := ?_) rfl (by kernel_rfl) (by kernel_rfl) (by kernel_rfl) (by kernel_rfl) (by kernel_rfl) (fun _ _ _ h => h) hC (.inl ⟨by rfl, fun _ _ => ?_⟩) ?_
          rotate_left 1
          · go_simp
            try with_reducible rfl
          simp only [Act.put, List.getElem_toArray, List.getElem_cons_succ, List.getElem_cons_zero, List.setIfInBounds_toArray, List.set_cons_zero, List.set_cons_succ]
          refine anyT_take0 (i := 3) (v := ?_) rfl (by kernel_rfl) (by kernel_rfl) (by kernel_rfl) (by kernel_rfl) (by kernel_rfl) (fun _ _ _ h => h) hC (.inl ⟨by rfl, fun _ _ => ?_⟩) ?_
          rotate_left 1
          · go_simp
            try with_reducible rfl
          simp only [Act.put, List.getElem_toArray, List.getElem_cons_succ, List.getElem_cons_zero, List.setIfInBounds_toArray, List.set_cons_zero, List.set_cons_succ]
          refine anyT_take0 (i := 4) (v := ?_) rfl (by kernel_rfl) (by kernel_rfl) (by kernel_rfl) (by kernel_rfl) (by kernel_rfl) (fun _ _ _ h => h) hC (.inl ⟨by rfl, fun _ _ => ?_⟩) ?_
          rotate_left 1
          · go_simp
            try with_reducible rfl
          simp only [Act.put, List.getElem_toArray, List.getElem_cons_succ, List.getElem_cons_zero, List.setIfInBounds_toArray, List.set_cons_zero, List.set_cons_succ]
          refine anyT_take0 (i := 5) (v := ?_) rfl (by kernel_rfl) (by kernel_rfl) (by kernel_rfl) (by kernel_rfl) (by kernel_rfl) (fun _ _ _ h => h) hC (.inl ⟨by rfl, fun _ _ => ?_⟩) ?_
          rotate_left 1
          · go_simp
            try with_reducible rfl
          simp only [Act.put, List.getElem_toArray, List.getElem_cons_succ, List.getElem_cons_zero, List.setIfInBounds_toArray, List.set_cons_zero, List.set_cons_succ]
          refine anyT_takeC (i := 6) (v := ?_) rfl (by kernel_rfl) (by kernel_rfl) (by kernel_rfl) (by kernel_rfl) (by kernel_rfl) (by kernel_rfl) (fun _ _ _ h => h) hC (.inl ⟨by rfl, fun w hCw => ?_⟩) ?_
          rotate_left 1
          · dsimp only at hCw
            go_simp
            try with_reducible rfl
          simp only [Act.put, List.getElem_toArray, List.getElem_cons_succ, List.getElem_cons_zero, List.setIfInBounds_toArray, List.set_cons_zero, List.set_cons_succ]
          refine anyT_take0 (i := 7) (v := ?_) rfl (by kernel_rfl) (by kernel_rfl) (by kernel_rfl) (by kernel_rfl) (by kernel_rfl) (fun _ _ _ h => h) hC (.inl ⟨by rfl, fun _ _ => ?_⟩) ?_
          rotate_left 1
          · go_simp
            try with_reducible rfl
          simp only [Act.put, List.getElem_toArray, List.getElem_cons_succ, List.getElem_cons_zero, List.setIfInBounds_toArray, List.set_cons_zero, List.set_cons_succ]
          refine anyT_take0 (i := 8) (v := ?_) rfl (by kernel_rfl) (by kernel_rfl) (by kernel_rfl) (by kernel_rfl) (by kernel_rfl) (fun _ _ _ h => h) hC (.inl ⟨by rfl, fun _ _ => ?_⟩) ?_
          rotate_left 1
          · go_simp
            try with_reducible rfl
          simp only [Act.put, List.getElem_toArray, List.getElem_cons_succ, List.getElem_cons_zero, List.setIfInBounds_toArray, List.set_cons_zero, List.set_cons_succ]
          refine anyT_take0 (i := 9) (v := ?_) rfl (by kernel_rfl) (by kernel_rfl) (by kernel_rfl) (by kernel_rfl) (by kernel_rfl) (fun _ _ _ h => h) hC (.inl ⟨by rfl, fun _ _ => ?_⟩) ?_
          rotate_left 1
          · go_simp
            try with_reducible rfl
          simp only [Act.put, List.getElem_toArray, List.getElem_cons_succ, List.getElem_cons_zero, List.setIfInBounds_toArray, List.set_cons_zero, List.set_cons_succ]
          obtain ⟨d0, d1, d2, d3, d4, d5, d6, d7, d8, d9, d10⟩ := hr136.p4
          simp only at d0 d1 d2 d3 d4 d5 d6 d7 d8 d9 d10
          have fz6 := hr136.frozen 6
          have fz9 := hr136.frozen 9
          have fz10 := hr136.frozen 10
          refine anyT_force (i := 10) rfl (by kernel_rfl) (by rfl) ?_
          go_simp
          refine ⟨fun _ => hC6, ?_⟩
          have hrq7 : RowAt (W6.setCell ⟨x, 6, none⟩ (.int .i64 (off + (n : Int)))).drew q (p4cells ⟨tos, id, ttl, proto, df, mf, off, src, dst, opt, data⟩ (.slice (some ⟨db, do_, none⟩) data.length dc)) 24 := (hrq6.setOther _ _ hn3).drew
          have hr137 : RowAt (W6.setCell ⟨x, 6, none⟩ (.int .i64 (off + (n : Int)))).drew x (p4cells ⟨tos, id, ttl, proto, df, mf, off + (n : Int), src, dst, opt, data⟩ (.slice (some ⟨db, do_, none⟩) data.length dc)) 24 := ((hr136.set 6 _).eq rfl).drew
          have hr127 := (hr126.setOther ⟨x, 6, none⟩ (.int .i64 (off + (n : Int))) hne).drew
          have hk67 := ((Keeps.refl (· = x) W6).setCell ⟨x, 6, none⟩ (.int .i64 (off + (n : Int))) (.inl rfl)).drew
          generalize (W6.setCell ⟨x, 6, none⟩ (.int .i64 (off + (n : Int)))).drew = W7 at *
          have hkF := hkE.from hk67 (fun b e => by omega)
          have hb7 := hb6.keeps hk67 (fun b hb e => by omega)
          clear d0 d1 d2 d3 d4 d5 d6 d7 d8 d9 d10 fz6 fz9 fz10 hk67 hkE hb6 hC6 hC hrq6 hr136 hr126
          obtain ⟨d0, d1, d2, d3, d4, d5, d6, d7, d8, d9, d10⟩ := hr137.p4
          obtain ⟨c0, c1, c2, c3, c4, c5, c6, c7, c8, c9, c10⟩ := hrq7.p4
          simp only at d0 d1 d2 d3 d4 d5 d6 d7 d8 d9 d10 c0 c1 c2 c3 c4 c5 c6 c7 c8 c9 c10
          have fz9 := hr137.frozen 9
          have fz10 := hr137.frozen 10
          have hC := And.intro c6 c10
          refine anyT_take0 (i := 11) (v := ?_) rfl (by kernel_rfl) (by kernel_rfl) (by kernel_rfl) (by kernel_rfl) (by kernel_rfl) (fun _ _ _ h => h) hC (.inl ⟨by rfl, fun _ _ => ?_⟩) ?_
          rotate_left 1
          · go_simp
            try with_reducible rfl
          simp only [Act.put, List.getElem_toArray, List.getElem_cons_succ, List.getElem_cons_zero, List.setIfInBounds_toArray, List.set_cons_zero, List.set_cons_succ]
          have hrq8 := hrq7.setOther ⟨x, 9, none⟩ (.string ⟨later.toArray⟩) hn3
          have hr128 := hr127.setOther ⟨x, 9, none⟩ (.string ⟨later.toArray⟩) hne
          have hr138 : RowAt (W7.setCell ⟨x, 9, none⟩ (.string ⟨later.toArray⟩)) x (p4cells ⟨tos, id, ttl, proto, df, mf, off + (n : Int), src, dst, later, data⟩ (.slice (some ⟨db, do_, none⟩) data.length dc)) 24 := (hr137.set 9 _).eq rfl
          have hk78 := (Keeps.refl (· = x) W7).setCell ⟨x, 9, none⟩ (.string ⟨later.toArray⟩) (.inl rfl)
          obtain ⟨b0, b1, b2, b3, b4, b5, b6, b7, b8, b9, b10⟩ := hrq8.p4
          simp only at b0 b1 b2 b3 b4 b5 b6 b7 b8 b9 b10
          have hC8 := And.intro b6 b10
          clear b0 b1 b2 b3 b4 b5 b6 b7 b8 b9 b10
          refine anyT_force (i := 12) rfl (by kernel_rfl) (by rfl) ?_
          go_simp
          generalize W7.setCell ⟨x, 9, none⟩ (.string ⟨later.toArray⟩) = W8 at *
          have hkG := hkF.from hk78 (fun b e => by omega)
          have hb8 := hb7.keeps hk78 (fun b hb e => by omega)
          clear d0 d1 d2 d3 d4 d5 d6 d7 d8 d9 d10 c0 c1 c2 c3 c4 c5 c6 c7 c8 c9 c10 fz9 fz10 hk78 hkF hb7 hC hrq7 hr137 hr127
          obtain ⟨d0, d1, d2, d3, d4, d5, d6, d7, d8, d9, d10⟩ := hr138.p4
          simp only at d0 d1 d2 d3 d4 d5 d6 d7 d8 d9 d10
          have fz10 := hr138.frozen 10
          have hC := hC8
          refine anyT_take0 (i := 13) (v := ?_) rfl (by kernel_rfl) (by kernel_rfl) (by kernel_rfl) (by kernel_rfl) (by kernel_rfl) (fun _ _ _ h => h) hC (.inl ⟨by rfl, fun _ _ => ?_⟩) ?_
          rotate_left 1
          · go_simp
            try with_reducible rfl
          simp only [Act.put, List.getElem_toArray, List.getElem_cons_succ, List.getElem_cons_zero, List.setIfInBounds_toArray, List.set_cons_zero, List.set_cons_succ]
          have hr129 := hr128.setOther ⟨x, 10, none⟩ (.slice (some ⟨db, do_ + n, none⟩) (data.length - n) (dc - n)) hne
          have hr139 : RowAt (W8.setCell ⟨x, 10, none⟩ (.slice (some ⟨db, do_ + n, none⟩) (data.length - n) (dc - n))) x (p4cells ⟨tos, id, ttl, proto, df, mf, off + (n : Int), src, dst, later, T2⟩ (.slice (some ⟨db, do_ + n, none⟩) (data.length - n) (dc - n))) 24 := (hr138.set 10 _).eq rfl
          have hk89 := (Keeps.refl (· = x) W8).setCell ⟨x, 10, none⟩ (.slice (some ⟨db, do_ + n, none⟩) (data.length - n) (dc - n)) (.inl rfl)
          have hrq9 := hrq8.setOther ⟨x, 10, none⟩ (.slice (some ⟨db, do_ + n, none⟩) (data.length - n) (dc - n)) hn3
          obtain ⟨b0, b1, b2, b3, b4, b5, b6, b7, b8, b9, b10⟩ := hrq9.p4
          simp only at b0 b1 b2 b3 b4 b5 b6 b7 b8 b9 b10
          have hC9 := And.intro b6 b10
          clear b0 b1 b2 b3 b4 b5 b6 b7 b8 b9 b10
          refine anyT_force (i := 14) rfl (by kernel_rfl) (by rfl) ?_
          go_simp
          generalize W8.setCell ⟨x, 10, none⟩ (.slice (some ⟨db, do_ + n, none⟩) (data.length - n) (dc - n)) = W9 at *
          have hkH := hkG.from hk89 (fun b e => by omega)
          have hb9 := hb8.keeps hk89 (fun b hb e => by omega)
          clear d0 d1 d2 d3 d4 d5 d6 d7 d8 d9 d10 fz10 hk89 hkG hb8 hC hC8 hC9 hrq8 hrq9 hr138 hr128
          refine (show anyT _ _ _ _ _ _ 0 _ _ _ from ⟨by kernel_rfl, ?_⟩)
          go_wp2
          refine region_T [7] (fun y => RowAt y x (p4cells ⟨tos, id, ttl, proto, df, mf, off + (n : Int), src, dst, later, T2⟩ (.slice (some ⟨db, do_ + n, none⟩) (data.length - n) (dc - n))) 24 ∧ RowAt y s (p4cells ⟨tos, id, ttl, proto, df, true, off, src, dst, opt, T1⟩ (.slice a5 n z5)) 24) (by kernel_rfl) ?_
          have hC : (fun y => RowAt y x (p4cells ⟨tos, id, ttl, proto, df, mf, off + (n : Int), src, dst, later, T2⟩ (.slice (some ⟨db, do_ + n, none⟩) (data.length - n) (dc - n))) 24 ∧ RowAt y s (p4cells ⟨tos, id, ttl, proto, df, true, off, src, dst, opt, T1⟩ (.slice a5 n z5)) 24) W9.drew := ⟨hr139.drew, hr129.drew⟩
          refine anyT_takeW (i := 0) (v := .agg (p4cells ⟨tos, id, ttl, proto, df, mf, off + (n : Int), src, dst, later, T2⟩ (.slice (some ⟨db, do_ + n, none⟩) (data.length - n) (dc - n)))) rfl (by kernel_rfl) (by kernel_rfl) (by kernel_rfl) (by kernel_rfl) (by kernel_rfl) (by kernel_rfl) (fun _ _ _ h => h) hC (.inl ⟨by rfl, fun w hCw => ?_⟩) ?_
          · obtain ⟨c0, c1, c2, c3, c4, c5, c6, c7, c8, c9, c10⟩ := RowAt.p4 hCw.1
            simp only at c0 c1 c2 c3 c4 c5 c6 c7 c8 c9 c10
            go_simp
            rfl
          simp only [Act.put, List.getElem_toArray, List.getElem_cons_succ, List.getElem_cons_zero, List.setIfInBounds_toArray, List.set_cons_zero, List.set_cons_succ]
          refine anyT_take0 (i := 1) (v := ?_) rfl (by kernel_rfl) (by kernel_rfl) (by kernel_rfl) (by kernel_rfl) (by kernel_rfl) (fun _ _ _ h => h) hC (.inl ⟨by rfl, fun _ _ => ?_⟩) ?_
          rotate_left 1
          · go_simp
            try with_reducible rfl
          simp only [Act.put, List.getElem_toArray, List.getElem_cons_succ, List.getElem_cons_zero, List.setIfInBounds_toArray, List.set_cons_zero, List.set_cons_succ]
          refine anyT_take0 (i := 2) (v := ?_) rfl (by kernel_rfl) (by kernel_rfl) (by kernel_rfl) (by kernel_rfl) (by kernel_rfl) (fun _ _ _ h => h) hC (.inl ⟨by rfl, fun _ _ => ?_⟩) ?_
          rotate_left 1
          · go_simp
            try with_reducible rfl
          simp only [Act.put, List.getElem_toArray, List.getElem_cons_succ, List.getElem_cons_zero, List.setIfInBounds_toArray, List.set_cons_zero, List.set_cons_succ]
          refine anyT_take0 (i := 3) (v := ?_) rfl (by kernel_rfl) (by kernel_rfl) (by kernel_rfl) (by kernel_rfl) (by kernel_rfl) (fun _ _ _ h => h) hC (.inl ⟨by rfl, fun _ _ => ?_⟩) ?_
          rotate_left 1
          · go_simp
            try with_reducible rfl
          simp only [Act.put, List.getElem_toArray, List.getElem_cons_succ, List.getElem_cons_zero, List.setIfInBounds_toArray, List.set_cons_zero, List.set_cons_succ]
          refine anyT_takeW (i := 4) (v := .agg #[.int .i64 tos, .int .i64 id, .int .i64 ttl, .int .i64 proto, .bool df, .bool true, .int .i64 off, .string ⟨src.toArray⟩, .string ⟨dst.toArray⟩, .string ⟨opt.toArray⟩, .slice a5 n z5]) rfl (by kernel_rfl) (by kernel_rfl) (by kernel_rfl) (by kernel_rfl) (by kernel_rfl) (by kernel_rfl) (fun _ _ _ h => h) hC (.inl ⟨by rfl, fun w hCw => ?_⟩) ?_
          · obtain ⟨c0, c1, c2, c3, c4, c5, c6, c7, c8, c9, c10⟩ := RowAt.p4 hCw.2
            simp only at c0 c1 c2 c3 c4 c5 c6 c7 c8 c9 c10
            go_simp
            try rfl
          simp only [Act.put, List.getElem_toArray, List.getElem_cons_succ, List.getElem_cons_zero, List.setIfInBounds_toArray, List.set_cons_zero, List.set_cons_succ]
          have hkI := (hkH.alloc (.cells #[.int .i64 tos, .int .i64 id, .int .i64 ttl, .int .i64 proto, .bool df, .bool true, .int .i64 off, .string ⟨src.toArray⟩, .string ⟨dst.toArray⟩, .string ⟨opt.toArray⟩, .slice a5 n z5] 24)).drew
          have hr12a : RowAt (W9.alloc (.cells #[.int .i64 tos, .int .i64 id, .int .i64 ttl, .int .i64 proto, .bool df, .bool true, .int .i64 off, .string ⟨src.toArray⟩, .string ⟨dst.toArray⟩, .string ⟨opt.toArray⟩, .slice a5 n z5] 24)).drew s (p4cells ⟨tos, id, ttl, proto, df, true, off, src, dst, opt, T1⟩ (.slice a5 n z5)) 24 := (hr129.alloc _).drew
          have hr13a : RowAt (W9.alloc (.cells #[.int .i64 tos, .int .i64 id, .int .i64 ttl, .int .i64 proto, .bool df, .bool true, .int .i64 off, .string ⟨src.toArray⟩, .string ⟨dst.toArray⟩, .string ⟨opt.toArray⟩, .slice a5 n z5] 24)).drew x (p4cells ⟨tos, id, ttl, proto, df, mf, off + (n : Int), src, dst, later, T2⟩ (.slice (some ⟨db, do_ + n, none⟩) (data.length - n) (dc - n))) 24 := (hr139.alloc _).drew
          have hsat : SAt (W9.alloc (.cells #[.int .i64 tos, .int .i64 id, .int .i64 ttl, .int .i64 proto, .bool df, .bool true, .int .i64 off, .string ⟨src.toArray⟩, .string ⟨dst.toArray⟩, .string ⟨opt.toArray⟩, .slice a5 n z5] 24)).drew (fun _ => True) 11 (.slice (some ⟨W9.heap.size, 0, none⟩) 1 1) 1 (p4cells ⟨tos, id, ttl, proto, df, true, off, src, dst, opt, T1⟩ (.slice a5 n z5)).toList := (sat_one W9 ⟨tos, id, ttl, proto, df, true, off, src, dst, opt, T1⟩ (.slice a5 n z5) 24).keeps (Keeps.refl (fun _ => False) _).drew (fun _ _ h => h)
          have hba := (hb9.keeps (((Keeps.refl (fun _ => False) W9).alloc (.cells #[.int .i64 tos, .int .i64 id, .int .i64 ttl, .int .i64 proto, .bool df, .bool true, .int .i64 off, .string ⟨src.toArray⟩, .string ⟨dst.toArray⟩, .string ⟨opt.toArray⟩, .slice a5 n z5] 24)).drew) (fun _ _ h => h)).mono (q := fun b => v.ownBlock ≠ some b) (fun b hb e => by have := (hvb b e).2; omega)
          have hCa := And.intro hr13a hr12a
          refine anyT_force (i := 5) rfl (by kernel_rfl) (by rfl) ?_
          go_simp
          generalize (W9.alloc (.cells #[.int .i64 tos, .int .i64 id, .int .i64 ttl, .int .i64 proto, .bool df, .bool true, .int .i64 off, .string ⟨src.toArray⟩, .string ⟨dst.toArray⟩, .string ⟨opt.toArray⟩, .slice a5 n z5] 24)).drew = Wa at *
          obtain ⟨v1, Wb, hrun, hob, hkb, hplace⟩ := run_append_p4 (ty := 26) (p := ⟨tos, id, ttl, proto, df, true, off, src, dst, opt, T1⟩) (hown.keeps hkI) rfl hsat hba (by omega) (by have := hkI.size; omega)
          have hCb : RowAt Wb x (p4cells ⟨tos, id, ttl, proto, df, mf, off + (n : Int), src, dst, later, T2⟩ (.slice (some ⟨db, do_ + n, none⟩) (data.length - n) (dc - n))) 24 ∧ RowAt Wb s (p4cells ⟨tos, id, ttl, proto, df, true, off, src, dst, opt, T1⟩ (.slice a5 n z5)) 24 :=
            ⟨hr13a.keeps hkb (fun e => by have := (hvb _ e).2; omega), hr12a.keeps hkb (fun e => by have := (hvb _ e).2; omega)⟩
          refine anyT_force (i := 6) rfl (by kernel_rfl) (by rfl) ?_
          refine Lib.wp_append_run _ _ _ _ _ rfl _ _ rfl rfl _ _ hrun ?_
          refine ⟨fun _ => hCb, ?_⟩
          simp only [Act.put, List.getElem_toArray, List.getElem_cons_succ, List.getElem_cons_zero, List.setIfInBounds_toArray, List.set_cons_zero, List.set_cons_succ]
          have hkJ : Keeps (fun b => v.ownBlock = some b) w Wb := (hkI.mono (fun _ _ h => h.elim)).trans hkb (fun _ _ h => h)
          have hIH := IH.out ⟨tos, id, ttl, proto, df, mf, off + (n : Int), src, dst, later, T2⟩ (.slice (some ⟨db, do_ + n, none⟩) (data.length - n) (dc - n)) v1 (qs ++ [(⟨tos, id, ttl, proto, df, true, off, src, dst, opt, T1⟩, .slice a5 n z5)]) Wb (by show T2.length < f; omega) hl (by show _ ≤ off + (n : Int); omega) (by show off + (n : Int) + (T2.length : Int) ≤ _; omega) (by have := hkJ.size; omega)
            (hdrop.keeps hkJ (fun b hb e => by have := (hvb b e).1; omega)) hob (by rw [List.length_append]; simp only [List.length_cons, List.length_nil]; omega)
          have hiJ := hkI.size
          clear hrun hob hkb hCa hCb hr12a hr13a hsat hba hb9 hkI hr129 hr139 hkH hC
          unfold Pieced at hIH
          obtain ⟨o, hO⟩ : ∃ o, piecesF f ⟨tos, id, ttl, proto, df, mf, off + (n : Int), src, dst, later, T2⟩ mtu later = o := ⟨_, rfl⟩
          rw [hO] at hIH
          have HO := Lib.hid hO
          clear hO hi9 hnn
          have HIH := Lib.hid hIH
          clear hIH
          have back : ∀ {W' : World}, Keeps (fun b => v1.ownBlock = some b) Wb W' → Keeps (fun b => v.ownBlock = some b) w W' := fun hk => hkJ.trans hk (fun i hi e => by
            rcases hplace with h | ⟨b, h, h'⟩
            · rw [← h]; exact e
            · rw [h] at e
              have : b = i := by simpa using e
              omega)
          cases o with
          | none =>
            refine anyT_force (i := 7) rfl (by kernel_rfl) (by rfl) ?_
            go_simp
            refine HIH.out.mono ?_
            rintro e W' ⟨hk', rfl⟩
            refine ⟨fun hy => absurd (hy 7 (by simp)) (by simp), ?_⟩
            refine anyT_restart [] (fun _ => True) ⟨7, by rfl, by simp⟩ ?_
            have hC : (fun _ : World => True) W' := trivial
            refine anyT_take0 (i := 8) (v := ?_) rfl (by kernel_rfl) (by kernel_rfl) (by kernel_rfl) (by kernel_rfl) (by kernel_rfl) (fun _ _ _ h => h) hC (.inl ⟨by rfl, fun _ _ => ?_⟩) ?_
            rotate_left 1
            · go_simp
              try with_reducible rfl
            simp only [Act.put, List.getElem_toArray, List.getElem_cons_succ, List.getElem_cons_zero, List.setIfInBounds_toArray, List.set_cons_zero, List.set_cons_succ]
            refine anyT_take0 (i := 9) (v := ?_) rfl (by kernel_rfl) (by kernel_rfl) (by kernel_rfl) (by kernel_rfl) (by kernel_rfl) (fun _ _ _ h => h) hC (.inl ⟨by rfl, fun _ _ => ?_⟩) ?_
            rotate_left 1
            · go_simp
              try with_reducible rfl
            simp only [Act.put, List.getElem_toArray, List.getElem_cons_succ, List.getElem_cons_zero, List.setIfInBounds_toArray, List.set_cons_zero, List.set_cons_succ]
            refine anyT_take0 (i := 10) (v := ?_) rfl (by kernel_rfl) (by kernel_rfl) (by kernel_rfl) (by kernel_rfl) (by kernel_rfl) (fun _ _ _ h => h) hC (.inl ⟨by rfl, fun _ _ => ?_⟩) ?_
            rotate_left 1
            · go_simp
              try with_reducible rfl
            simp only [Act.put, List.getElem_toArray, List.getElem_cons_succ, List.getElem_cons_zero, List.setIfInBounds_toArray, List.set_cons_zero, List.set_cons_succ]
            refine anyT_take0 (i := 11) (v := ?_) rfl (by kernel_rfl) (by kernel_rfl) (by kernel_rfl) (by kernel_rfl) (by kernel_rfl) (fun _ _ _ h => h) hC (.inl ⟨by rfl, fun _ _ => ?_⟩) ?_
            rotate_left 1
            · go_simp
              try with_reducible rfl
            simp only [Act.put, List.getElem_toArray, List.getElem_cons_succ, List.getElem_cons_zero, List.setIfInBounds_toArray, List.set_cons_zero, List.set_cons_succ]
            refine (show anyT _ _ _ _ _ _ 0 _ _ _ from ⟨by kernel_rfl, ?_⟩)
            go_wp2
            go_ret2
            unfold Pieced
            rw [HO.out]
            exact ⟨back hk', rfl⟩
          | some L =>
            refine anyT_force (i := 7) rfl (by kernel_rfl) (by rfl) ?_
            go_simp
            refine HIH.out.mono ?_
            rintro e W' ⟨hk', v', qs', rfl, hm', ho'⟩
            refine ⟨fun hy => absurd (hy 7 (by simp)) (by simp), ?_⟩
            refine anyT_restart [] (fun _ => True) ⟨7, by rfl, by simp⟩ ?_
            have hC : (fun _ : World => True) W' := trivial
            refine anyT_take0 (i := 8) (v := ?_) rfl (by kernel_rfl) (by kernel_rfl) (by kernel_rfl) (by kernel_rfl) (by kernel_rfl) (fun _ _ _ h => h) hC (.inl ⟨by rfl, fun _ _ => ?_⟩) ?_
            rotate_left 1
            · go_simp
              try with_reducible rfl
            simp only [Act.put, List.getElem_toArray, List.getElem_cons_succ, List.getElem_cons_zero, List.setIfInBounds_toArray, List.set_cons_zero, List.set_cons_succ]
            refine anyT_take0 (i := 9) (v := ?_) rfl (by kernel_rfl) (by kernel_rfl) (by kernel_rfl) (by kernel_rfl) (by kernel_rfl) (fun _ _ _ h => h) hC (.inl ⟨by rfl, fun _ _ => ?_⟩) ?_
            rotate_left 1
            · go_simp
              try with_reducible rfl
            simp only [Act.put, List.getElem_toArray, List.getElem_cons_succ, List.getElem_cons_zero, List.setIfInBounds_toArray, List.set_cons_zero, List.set_cons_succ]
            refine anyT_take0 (i := 10) (v := ?_) rfl (by kernel_rfl) (by kernel_rfl) (by kernel_rfl) (by kernel_rfl) (by kernel_rfl) (fun _ _ _ h => h) hC (.inl ⟨by rfl, fun _ _ => ?_⟩) ?_
            rotate_left 1
            · go_simp
              try with_reducible rfl
            simp only [Act.put, List.getElem_toArray, List.getElem_cons_succ, List.getElem_cons_zero, List.setIfInBounds_toArray, List.set_cons_zero, List.set_cons_succ]
            refine anyT_take0 (i := 11) (v := ?_) rfl (by kernel_rfl) (by kernel_rfl) (by kernel_rfl) (by kernel_rfl) (by kernel_rfl) (fun _ _ _ h => h) hC (.inl ⟨by rfl, fun _ _ => ?_⟩) ?_
            rotate_left 1
            · go_simp
              try with_reducible rfl
            simp only [Act.put, List.getElem_toArray, List.getElem_cons_succ, List.getElem_cons_zero, List.setIfInBounds_toArray, List.set_cons_zero, List.set_cons_succ]
            refine (show anyT _ _ _ _ _ _ 0 _ _ _ from ⟨by kernel_rfl, ?_⟩)
            go_wp2
            go_ret2
            unfold Pieced
            rw [HO.out]
            exact ⟨back hk', v', qs', rfl, by rw [hm']; simp, ho'⟩
        · have hr1 : RowAt (W.alloc (.cells #[.int .i64 0, .int .i64 0, .int .i64 0, .int .i64 0, .bool false, .bool false, .int .i64 0, .string ⟨#[]⟩, .string ⟨#[]⟩, .string ⟨#[]⟩, .slice none 0 0] 24)).drew s p4zc 24 := hs ▸ (RowAt.new W _ _).drew
          have hC : RowAt (W.alloc (.cells #[.int .i64 0, .int .i64 0, .int .i64 0, .int .i64 0, .bool false, .bool false, .int .i64 0, .string ⟨#[]⟩, .string ⟨#[]⟩, .string ⟨#[]⟩, .slice none 0 0] 24)).drew q (p4cells ⟨tos, id, ttl, proto, df, mf, off, src, dst, opt, data⟩ (.slice (some ⟨db, do_, none⟩) data.length dc)) 24 := (hr0'.alloc _).drew
          have hk1 := (hk0.alloc (.cells #[.int .i64 0, .int .i64 0, .int .i64 0, .int .i64 0, .bool false, .bool false, .int .i64 0, .string ⟨#[]⟩, .string ⟨#[]⟩, .string ⟨#[]⟩, .slice none 0 0] 24)).drew
          have hs1 : (W.alloc (.cells #[.int .i64 0, .int .i64 0, .int .i64 0, .int .i64 0, .bool false, .bool false, .int .i64 0, .string ⟨#[]⟩, .string ⟨#[]⟩, .string ⟨#[]⟩, .slice none 0 0] 24)).drew.heap.size = s + 1 := hs ▸ Array.size_push _
          go_simp
          generalize (W.alloc (.cells #[.int .i64 0, .int .i64 0, .int .i64 0, .int .i64 0, .bool false, .bool false, .int .i64 0, .string ⟨#[]⟩, .string ⟨#[]⟩, .string ⟨#[]⟩, .slice none 0 0] 24)).drew = W1 at *
          have hrB : RowAt (W1.alloc (.cells #[.int .i64 0, .int .i64 0, .int .i64 0, .int .i64 0, .bool false, .bool false, .int .i64 0, .string ⟨#[]⟩, .string ⟨#[]⟩, .string ⟨#[]⟩, .slice none 0 0] 24)) (s + 1) p4zc 24 := hs1 ▸ RowAt.new W1 _ _
          have hC2 : RowAt (W1.alloc (.cells #[.int .i64 0, .int .i64 0, .int .i64 0, .int .i64 0, .bool false, .bool false, .int .i64 0, .string ⟨#[]⟩, .string ⟨#[]⟩, .string ⟨#[]⟩, .slice none 0 0] 24)) q (p4cells ⟨tos, id, ttl, proto, df, mf, off, src, dst, opt, data⟩ (.slice (some ⟨db, do_, none⟩) data.length dc)) 24 := hC.alloc _
          have hrA : RowAt (W1.alloc (.cells #[.int .i64 0, .int .i64 0, .int .i64 0, .int .i64 0, .bool false, .bool false, .int .i64 0, .string ⟨#[]⟩, .string ⟨#[]⟩, .string ⟨#[]⟩, .slice none 0 0] 24)) s p4zc 24 := hr1.alloc _
          have hk2 := hk1.alloc (.cells #[.int .i64 0, .int .i64 0, .int .i64 0, .int .i64 0, .bool false, .bool false, .int .i64 0, .string ⟨#[]⟩, .string ⟨#[]⟩, .string ⟨#[]⟩, .slice none 0 0] 24)
          refine anyT_force (i := 2) rfl (by kernel_rfl) (by rfl) ?_
          go_simp
          first | refine ⟨fun _ => hC2, ?_⟩ | skip
          generalize W1.alloc (.cells #[.int .i64 0, .int .i64 0, .int .i64 0, .int .i64 0, .bool false, .bool false, .int .i64 0, .string ⟨#[]⟩, .string ⟨#[]⟩, .string ⟨#[]⟩, .slice none 0 0] 24) = W2 at *
          obtain ⟨x, hx⟩ : ∃ x, s + 1 = x := ⟨_, rfl⟩
          rw [hx] at hrB ⊢
          have hne : x ≠ s := by omega
          have hn2 : q ≠ x := by omega
          have hn3 : q ≠ s := by omega
          have g2 : w.heap.size ≤ x := by omega
          have g3 : w.heap.size ≤ s := by omega
          clear hr1 hC hk1 hs1 hx hr0' hk0 hs hqs
          refine anyT_force (i := 4) rfl (by kernel_rfl) (by rfl) ?_
          refine wp_store_whole 24 (.tmp 12) (.tmp 39) rfl x (p4cells ⟨tos, id, ttl, proto, df, mf, off, src, dst, opt, data⟩ (.slice (some ⟨db, do_, none⟩) data.length dc)) rfl rfl 24 _ 11 hrB rfl rfl (by kernel_rfl) (p4_one _ _ rfl) (fun W3 hr12 hk3 => ?_)
          have hrq := hC2.keeps hk3 hn2
          refine ⟨fun _ => hrq, ?_⟩
          have hr13 := hrA.keeps hk3 (Ne.symm hne)
          have hkB := hk2.from hk3 (fun b e => by omega)
          clear hrB hrA hC2 hk2 hk3
          simp only [Act.put, List.getElem_toArray, List.getElem_cons_succ, List.getElem_cons_zero, List.setIfInBounds_toArray, List.set_cons_zero, List.set_cons_succ]
          refine anyT_tail (k := 5) (by rfl) (by kernel_rfl) (by simp) rfl rfl (by kernel_rfl) ?_
          refine wpList_store_whole rfl 24 (.tmp 13) (.tmp 40) rfl s (p4cells ⟨tos, id, ttl, proto, df, mf, off, src, dst, opt, data⟩ (.slice (some ⟨db, do_, none⟩) data.length dc)) rfl rfl 24 _ 11 hr13 rfl rfl (by kernel_rfl) (p4_one _ _ rfl) (fun W4 hr13' hk4 => ?_)
          have hrq4 := hrq.keeps hk4 hn3
          have hr12' := hr12.keeps hk4 hne
          have hkC := hkB.from hk4 (fun b e => by omega)
          clear hr12 hr13 hrq hkB hk4
          obtain ⟨c0, c1, c2, c3, c4, c5, c6, c7, c8, c9, c10⟩ := hrq4.p4
          simp only at c0 c1 c2 c3 c4 c5 c6 c7 c8 c9 c10
          go_wp2_with fail
          have hnn := HN.out
          have hi9 := HI.out
          refine (clone_any _ T1 W4 _ (htake.keeps hkC (fun _ _ h => h)) (by omega)).mono ?_
          rintro e W5 ⟨v5, rfl, ho5, hk5⟩
          obtain ⟨a5, z5, e5, hz5, -⟩ := BOwn.slice ho5
          rw [hnn.2.2.1] at e5
          subst e5
          have hrq5 := hrq4.keeps hk5 (fun h => h)
          have hr125 := hr12'.keeps hk5 (fun h => h)
          have hr135 := hr13'.keeps hk5 (fun h => h)
          have hkD := hkC.trans hk5 (fun _ _ h => h)
          have hb5 := (ho5.keeps (Keeps.refl (fun _ => False) W5) (fun _ _ h => h)).ge
          have hlA := hr12'.lt
          have hlB := hr13'.lt
          have hlQ := hrq4.lt
          have hg4 := hkC.size
          clear c0 c1 c2 c3 c4 c5 c6 c7 c8 c9 c10 ho5 hk5 hr12' hr13' hrq4 hkC
          obtain ⟨d0, d1, d2, d3, d4, d5, d6, d7, d8, d9, d10⟩ := hr125.p4
          have fz5 := hr125.frozen 5
          have fz10 := hr125.frozen 10
          obtain ⟨c0, c1, c2, c3, c4, c5, c6, c7, c8, c9, c10⟩ := hrq5.p4
          simp only at c0 c1 c2 c3 c4 c5 c6 c7 c8 c9 c10 d0 d1 d2 d3 d4 d5 d6 d7 d8 d9 d10
          have hrq6 := (hrq5.setOther ⟨x, 5, none⟩ (.bool true) hn2).setOther ⟨x, 10, none⟩ (.slice a5 n z5) hn2
          have hr136 := (hr135.setOther ⟨x, 5, none⟩ (.bool true) (Ne.symm hne)).setOther ⟨x, 10, none⟩ (.slice a5 n z5) (Ne.symm hne)
          have hr126 : RowAt ((W5.setCell ⟨x, 5, none⟩ (.bool true)).setCell ⟨x, 10, none⟩ (.slice a5 n z5)) x (p4cells ⟨tos, id, ttl, proto, df, true, off, src, dst, opt, T1⟩ (.slice a5 n z5)) 24 := ((hr125.set 5 _).set 10 _).eq rfl
          have hk56 := ((Keeps.refl (· = x) W5).setCell ⟨x, 5, none⟩ (.bool true) (.inl rfl)).setCell ⟨x, 10, none⟩ (.slice a5 n z5) (.inl rfl)
          have hkE := hkD.from hk56 (fun b e => by omega)
          have hb6 := hb5.keeps hk56 (fun b hb e => by omega)
          go_wp2
          generalize (W5.setCell ⟨x, 5, none⟩ (.bool true)).setCell ⟨x, 10, none⟩ (.slice a5 n z5) = W6 at *
          clear d0 d1 d2 d3 d4 d5 d6 d7 d8 d9 d10 c0 c1 c2 c3 c4 c5 c6 c7 c8 c9 c10 fz5 fz10 hk56 hb5 hkD hr125 hr135 hrq5
          have hC6 : W6.drew.cell? ⟨q, 6, none⟩ = some (.int .i64 off) ∧ W6.drew.cell? ⟨q, 10, none⟩ = some (.slice (some ⟨db, do_, none⟩) data.length dc) := by
            obtain ⟨c0, c1, c2, c3, c4, c5, c6, c7, c8, c9, c10⟩ := hrq6.p4
            exact ⟨c6, c10⟩
          refine region_T [] (fun x => x.cell? ⟨q, 6, none⟩ = some (.int .i64 off) ∧ x.cell? ⟨q, 10, none⟩ = some (.slice (some ⟨db, do_, none⟩) data.length dc)) (by kernel_rfl) ?_
          have hC := hC6
          refine anyT_take0 (i := 0) (v := ?_) rfl (by kernel_rfl) (by kernel_rfl) (by kernel_rfl) (by kernel_rfl) (by kernel_rfl) (fun _ _ _ h => h) hC (.inl ⟨by rfl, fun _ _ => ?_⟩) ?_
          rotate_left 1
          · go_simp
            try with_reducible rfl
          simp only [Act.put, List.getElem_toArray, List.getElem_cons_succ, List.getElem_cons_zero, List.setIfInBounds_toArray, List.set_cons_zero, List.set_cons_succ]
          refine anyT_takeC (i := 1) (v := ?_) rfl (by kernel_rfl) (by kernel_rfl) (by kernel_rfl) (by kernel_rfl) (by kernel_rfl) (by kernel_rfl) (fun _ _ _ h => h) hC (.inl ⟨by rfl, fun w hCw => ?_⟩) ?_
          rotate_left 1
          · dsimp only at hCw
            go_simp
            try with_reducible rfl
          simp only [Act.put, List.getElem_toArray, List.getElem_cons_succ, List.getElem_cons_zero, List.setIfInBounds_toArray, List.set_cons_zero, List.set_cons_succ]
          refine anyT_take0 (i := 2) (v := ?_) rfl (by kernel_rfl) (by kernel_rfl) (by kernel_rfl) (by kernel_rfl) (by kernel_rfl) (fun _ _ _ h => h) hC (.inl ⟨by rfl, fun _ _ => ?_⟩) ?_
          rotate_left 1
          · go_simp
            try with_reducible rfl
          simp only [Act.put, List.getElem_toArray, List.getElem_cons_succ, List.getElem_cons_zero, List.setIfInBounds_toArray, List.set_cons_zero, List.set_cons_succ]
          refine anyT_take0 (i := 3) (v := ?_) rfl (by kernel_rfl) (by kernel_rfl) (by kernel_rfl) (by kernel_rfl) (by kernel_rfl) (fun _ _ _ h => h) hC (.inl ⟨by rfl, fun _ _ => ?_⟩) ?_
          rotate_left 1
          · go_simp
            try with_reducible rfl
          simp only [Act.put, List.getElem_toArray, List.getElem_cons_succ, List.getElem_cons_zero, List.setIfInBounds_toArray, List.set_cons_zero, List.set_cons_succ]
          refine anyT_take0 (i := 4) (v := ?_) rfl (by kernel_rfl) (by kernel_rfl) (by kernel_rfl) (by kernel_rfl) (by kernel_rfl) (fun _ _ _ h => h) hC (.inl ⟨by rfl, fun _ _ => ?_⟩) ?_
          rotate_left 1
          · go_simp
            try with_reducible rfl
          simp only [Act.put, List.getElem_toArray, List.getElem_cons_succ, List.getElem_cons_zero, List.setIfInBounds_toArray, List.set_cons_zero, List.set_cons_succ]
          refine anyT_take0 (i := 5) (v := ?_) rfl (by kernel_rfl) (by kernel_rfl) (by kernel_rfl) (by kernel_rfl) (by kernel_rfl) (fun _ _ _ h => h) hC (.inl ⟨by rfl, fun _ _ => ?_⟩) ?_
          rotate_left 1
          · go_simp
            try with_reducible rfl
          simp only [Act.put, List.getElem_toArray, List.getElem_cons_succ, List.getElem_cons_zero, List.setIfInBounds_toArray, List.set_cons_zero, List.set_cons_succ]
          refine anyT_takeC (i := 6) (v := ?_) rfl (by kernel_rfl) (by kernel_rfl) (by kernel_rfl) (by kernel_rfl) (by kernel_rfl) (by kernel_rfl) (fun _ _ _ h => h) hC (.inl ⟨by rfl, fun w hCw => ?_⟩) ?_
          rotate_left 1
          · dsimp only at hCw
            go_simp
            try with_reducible rfl
          simp only [Act.put, List.getElem_toArray, List.getElem_cons_succ, List.getElem_cons_zero, List.setIfInBounds_toArray, List.set_cons_zero, List.set_cons_succ]
          refine anyT_take0 (i := 7) (v := ?_) rfl (by kernel_rfl) (by kernel_rfl) (by kernel_rfl) (by kernel_rfl) (by kernel_rfl) (fun _ _ _ h => h) hC (.inl ⟨by rfl, fun _ _ => ?_⟩) ?_
          rotate_left 1
          · go_simp
            try with_reducible rfl
          simp only [Act.put, List.getElem_toArray, List.getElem_cons_succ, List.getElem_cons_zero, List.setIfInBounds_toArray, List.set_cons_zero, List.set_cons_succ]
          refine anyT_take0 (i := 8) (v := ?_) rfl (by kernel_rfl) (by kernel_rfl) (by kernel_rfl) (by kernel_rfl) (by kernel_rfl) (fun _ _ _ h => h) hC (.inl ⟨by rfl, fun _ _ => ?_⟩) ?_
          rotate_left 1
          · go_simp
            try with_reducible rfl
          simp only [Act.put, List.getElem_toArray, List.getElem_cons_succ, List.getElem_cons_zero, List.setIfInBounds_toArray, List.set_cons_zero, List.set_cons_succ]
          refine anyT_take0 (i := 9) (v := ?_) rfl (by kernel_rfl) (by kernel_rfl) (by kernel_rfl) (by kernel_rfl) (by kernel_rfl) (fun _ _ _ h => h) hC (.inl ⟨by rfl, fun _ _ => ?_⟩) ?_
          rotate_left 1
          · go_simp
            try with_reducible rfl
          simp only [Act.put, List.getElem_toArray, List.getElem_cons_succ, List.getElem_cons_zero, List.setIfInBounds_toArray, List.set_cons_zero, List.set_cons_succ]
          obtain ⟨d0, d1, d2, d3, d4, d5, d6, d7, d8, d9, d10⟩ := hr136.p4
          simp only at d0 d1 d2 d3 d4 d5 d6 d7 d8 d9 d10
          have fz6 := hr136.frozen 6
          have fz9 := hr136.frozen 9
          have fz10 := hr136.frozen 10
          refine anyT_force (i := 10) rfl (by kernel_rfl) (by rfl) ?_
          go_simp
          refine ⟨fun _ => hC6, ?_⟩
          have hrq7 : RowAt (W6.setCell ⟨s, 6, none⟩ (.int .i64 (off + (n : Int)))).drew q (p4cells ⟨tos, id, ttl, proto, df, mf, off, src, dst, opt, data⟩ (.slice (some ⟨db, do_, none⟩) data.length dc)) 24 := (hrq6.setOther _ _ hn3).drew
          have hr137 : RowAt (W6.setCell ⟨s, 6, none⟩ (.int .i64 (off + (n : Int)))).drew s (p4cells ⟨tos, id, ttl, proto, df, mf, off + (n : Int), src, dst, opt, data⟩ (.slice (some ⟨db, do_, none⟩) data.length dc)) 24 := ((hr136.set 6 _).eq rfl).drew
          have hr127 := (hr126.setOther ⟨s, 6, none⟩ (.int .i64 (off + (n : Int))) hne).drew
          have hk67 := ((Keeps.refl (· = s) W6).setCell ⟨s, 6, none⟩ (.int .i64 (off + (n : Int))) (.inl rfl)).drew
          generalize (W6.setCell ⟨s, 6, none⟩ (.int .i64 (off + (n : Int)))).drew = W7 at *
          have hkF := hkE.from hk67 (fun b e => by omega)
          have hb7 := hb6.keeps hk67 (fun b hb e => by omega)
          clear d0 d1 d2 d3 d4 d5 d6 d7 d8 d9 d10 fz6 fz9 fz10 hk67 hkE hb6 hC6 hC hrq6 hr136 hr126
          obtain ⟨d0, d1, d2, d3, d4, d5, d6, d7, d8, d9, d10⟩ := hr137.p4
          obtain ⟨c0, c1, c2, c3, c4, c5, c6, c7, c8, c9, c10⟩ := hrq7.p4
          simp only at d0 d1 d2 d3 d4 d5 d6 d7 d8 d9 d10 c0 c1 c2 c3 c4 c5 c6 c7 c8 c9 c10
          have fz9 := hr137.frozen 9
          have fz10 := hr137.frozen 10
          have hC := And.intro c6 c10
          refine anyT_take0 (i := 11) (v := ?_) rfl (by kernel_rfl) (by kernel_rfl) (by kernel_rfl) (by kernel_rfl) (by kernel_rfl) (fun _ _ _ h => h) hC (.inl ⟨by rfl, fun _ _ => ?_⟩) ?_
          rotate_left 1
          · go_simp
            try with_reducible rfl
          simp only [Act.put, List.getElem_toArray, List.getElem_cons_succ, List.getElem_cons_zero, List.setIfInBounds_toArray, List.set_cons_zero, List.set_cons_succ]
          have hrq8 := hrq7.setOther ⟨s, 9, none⟩ (.string ⟨later.toArray⟩) hn3
          have hr128 := hr127.setOther ⟨s, 9, none⟩ (.string ⟨later.toArray⟩) hne
          have hr138 : RowAt (W7.setCell ⟨s, 9, none⟩ (.string ⟨later.toArray⟩)) s (p4cells ⟨tos, id, ttl, proto, df, mf, off + (n : Int), src, dst, later, data⟩ (.slice (some ⟨db, do_, none⟩) data.length dc)) 24 := (hr137.set 9 _).eq rfl
          have hk78 := (Keeps.refl (· = s) W7).setCell ⟨s, 9, none⟩ (.string ⟨later.toArray⟩) (.inl rfl)
          obtain ⟨b0, b1, b2, b3, b4, b5, b6, b7, b8, b9, b10⟩ := hrq8.p4
          simp only at b0 b1 b2 b3 b4 b5 b6 b7 b8 b9 b10
          have hC8 := And.intro b6 b10
          clear b0 b1 b2 b3 b4 b5 b6 b7 b8 b9 b10
          refine anyT_force (i := 12) rfl (by kernel_rfl) (by rfl) ?_
          go_simp
          generalize W7.setCell ⟨s, 9, none⟩ (.string ⟨later.toArray⟩) = W8 at *
          have hkG := hkF.from hk78 (fun b e => by omega)
          have hb8 := hb7.keeps hk78 (fun b hb e => by omega)
          clear d0 d1 d2 d3 d4 d5 d6 d7 d8 d9 d10 c0 c1 c2 c3 c4 c5 c6 c7 c8 c9 c10 fz9 fz10 hk78 hkF hb7 hC hrq7 hr137 hr127
          obtain ⟨d0, d1, d2, d3, d4, d5, d6, d7, d8, d9, d10⟩ := hr138.p4
          simp only at d0 d1 d2 d3 d4 d5 d6 d7 d8 d9 d10
          have fz10 := hr138.frozen 10
          have hC := hC8
          refine anyT_take0 (i := 13) (v := ?_) rfl (by kernel_rfl) (by kernel_rfl) (by kernel_rfl) (by kernel_rfl) (by kernel_rfl) (fun _ _ _ h => h) hC (.inl ⟨by rfl, fun _ _ => ?_⟩) ?_
          rotate_left 1
          · go_simp
            try with_reducible rfl
          simp only [Act.put, List.getElem_toArray, List.getElem_cons_succ, List.getElem_cons_zero, List.setIfInBounds_toArray, List.set_cons_zero, List.set_cons_succ]
          have hr129 := hr128.setOther ⟨s, 10, none⟩ (.slice (some ⟨db, do_ + n, none⟩) (data.length - n) (dc - n)) hne
          have hr139 : RowAt (W8.setCell ⟨s, 10, none⟩ (.slice (some ⟨db, do_ + n, none⟩) (data.length - n) (dc - n))) s (p4cells ⟨tos, id, ttl, proto, df, mf, off + (n : Int), src, dst, later, T2⟩ (.slice (some ⟨db, do_ + n, none⟩) (data.length - n) (dc - n))) 24 := (hr138.set 10 _).eq rfl
          have hk89 := (Keeps.refl (· = s) W8).setCell ⟨s, 10, none⟩ (.slice (some ⟨db, do_ + n, none⟩) (data.length - n) (dc - n)) (.inl rfl)
          have hrq9 := hrq8.setOther ⟨s, 10, none⟩ (.slice (some ⟨db, do_ + n, none⟩) (data.length - n) (dc - n)) hn3
          obtain ⟨b0, b1, b2, b3, b4, b5, b6, b7, b8, b9, b10⟩ := hrq9.p4
          simp only at b0 b1 b2 b3 b4 b5 b6 b7 b8 b9 b10
          have hC9 := And.intro b6 b10
          clear b0 b1 b2 b3 b4 b5 b6 b7 b8 b9 b10
          refine anyT_force (i := 14) rfl (by kernel_rfl) (by rfl) ?_
          go_simp
          generalize W8.setCell ⟨s, 10, none⟩ (.slice (some ⟨db, do_ + n, none⟩) (data.length - n) (dc - n)) = W9 at *
          have hkH := hkG.from hk89 (fun b e => by omega)
          have hb9 := hb8.keeps hk89 (fun b hb e => by omega)
          clear d0 d1 d2 d3 d4 d5 d6 d7 d8 d9 d10 fz10 hk89 hkG hb8 hC hC8 hC9 hrq8 hrq9 hr138 hr128
          refine (show anyT _ _ _ _ _ _ 0 _ _ _ from ⟨by kernel_rfl, ?_⟩)
          go_wp2
          refine region_T [7] (fun y => RowAt y s (p4cells ⟨tos, id, ttl, proto, df, mf, off + (n : Int), src, dst, later, T2⟩ (.slice (some ⟨db, do_ + n, none⟩) (data.length - n) (dc - n))) 24 ∧ RowAt y x (p4cells ⟨tos, id, ttl, proto, df, true, off, src, dst, opt, T1⟩ (.slice a5 n z5)) 24) (by kernel_rfl) ?_
          have hC : (fun y => RowAt y s (p4cells ⟨tos, id, ttl, proto, df, mf, off + (n : Int), src, dst, later, T2⟩ (.slice (some ⟨db, do_ + n, none⟩) (data.length - n) (dc - n))) 24 ∧ RowAt y x (p4cells ⟨tos, id, ttl, proto, df, true, off, src, dst, opt, T1⟩ (.slice a5 n z5)) 24) W9.drew := ⟨hr139.drew, hr129.drew⟩
          refine anyT_takeW (i := 0) (v := .agg (p4cells ⟨tos, id, ttl, proto, df, mf, off + (n : Int), src, dst, later, T2⟩ (.slice (some ⟨db, do_ + n, none⟩) (data.length - n) (dc - n)))) rfl (by kernel_rfl) (by kernel_rfl) (by kernel_rfl) (by kernel_rfl) (by kernel_rfl) (by kernel_rfl) (fun _ _ _ h => h) hC (.inl ⟨by rfl, fun w hCw => ?_⟩) ?_
          · obtain ⟨c0, c1, c2, c3, c4, c5, c6, c7, c8, c9, c10⟩ := RowAt.p4 hCw.1
            simp only at c0 c1 c2 c3 c4 c5 c6 c7 c8 c9 c10
            go_simp
            rfl
          simp only [Act.put, List.getElem_toArray, List.getElem_cons_succ, List.getElem_cons_zero, List.setIfInBounds_toArray, List.set_cons_zero, List.set_cons_succ]
          refine anyT_take0 (i := 1) (v := ?_) rfl (by kernel_rfl) (by kernel_rfl) (by kernel_rfl) (by kernel_rfl) (by kernel_rfl) (fun _ _ _ h => h) hC (.inl ⟨by rfl, fun _ _ => ?_⟩) ?_
          rotate_left 1
          · go_simp
            try with_reducible rfl
          simp only [Act.put, List.getElem_toArray, List.getElem_cons_succ, List.getElem_cons_zero, List.setIfInBounds_toArray, List.set_cons_zero, List.set_cons_succ]
          refine anyT_take0 (i := 2) (v := ?_) rfl (by kernel_rfl) (by kernel_rfl) (by kernel_rfl) (by kernel_rfl) (by kernel_rfl) (fun _ _ _ h => h) hC (.inl ⟨by rfl, fun _ _ => ?_⟩) ?_
          rotate_left 1
          · go_simp
            try with_reducible rfl
          simp only [Act.put, List.getElem_toArray, List.getElem_cons_succ, List.getElem_cons_zero, List.setIfInBounds_toArray, List.set_cons_zero, List.set_cons_succ]
          refine anyT_take0 (i := 3) (v := ?_) rfl (by kernel_rfl) (by kernel_rfl) (by kernel_rfl) (by kernel_rfl) (by kernel_rfl) (fun _ _ _ h => h) hC (.inl ⟨by rfl, fun _ _ => ?_⟩) ?_
          rotate_left 1
          · go_simp
            try with_reducible rfl
          simp only [Act.put, List.getElem_toArray, List.getElem_cons_succ, List.getElem_cons_zero, List.setIfInBounds_toArray, List.set_cons_zero, List.set_cons_succ]
          refine anyT_takeW (i := 4) (v := .agg #[.int .i64 tos, .int .i64 id, .int .i64 ttl, .int .i64 proto, .bool df, .bool true, .int .i64 off, .string ⟨src.toArray⟩, .string ⟨dst.toArray⟩, .string ⟨opt.toArray⟩, .slice a5 n z5]) rfl (by kernel_rfl) (by kernel_rfl) (by kernel_rfl) (by kernel_rfl) (by kernel_rfl) (by kernel_rfl) (fun _ _ _ h => h) hC (.inl ⟨by rfl, fun w hCw => ?_⟩) ?_
          · obtain ⟨c0, c1, c2, c3, c4, c5, c6, c7, c8, c9, c10⟩ := RowAt.p4 hCw.2
            simp only at c0 c1 c2 c3 c4 c5 c6 c7 c8 c9 c10
            go_simp
            try rfl
          simp only [Act.put, List.getElem_toArray, List.getElem_cons_succ, List.getElem_cons_zero, List.setIfInBounds_toArray, List.set_cons_zero, List.set_cons_succ]
          have hkI := (hkH.alloc (.cells #[.int .i64 tos, .int .i64 id, .int .i64 ttl, .int .i64 proto, .bool df, .bool true, .int .i64 off, .string ⟨src.toArray⟩, .string ⟨dst.toArray⟩, .string ⟨opt.toArray⟩, .slice a5 n z5] 24)).drew
          have hr12a : RowAt (W9.alloc (.cells #[.int .i64 tos, .int .i64 id, .int .i64 ttl, .int .i64 proto, .bool df, .bool true, .int .i64 off, .string ⟨src.toArray⟩, .string ⟨dst.toArray⟩, .string ⟨opt.toArray⟩, .slice a5 n z5] 24)).drew x (p4cells ⟨tos, id, ttl, proto, df, true, off, src, dst, opt, T1⟩ (.slice a5 n z5)) 24 := (hr129.alloc _).drew
          have hr13a : RowAt (W9.alloc (.cells #[.int .i64 tos, .int .i64 id, .int .i64 ttl, .int .i64 proto, .bool df, .bool true, .int .i64 off, .string ⟨src.toArray⟩, .string ⟨dst.toArray⟩, .string ⟨opt.toArray⟩, .slice a5 n z5] 24)).drew s (p4cells ⟨tos, id, ttl, proto, df, mf, off + (n : Int), src, dst, later, T2⟩ (.slice (some ⟨db, do_ + n, none⟩) (data.length - n) (dc - n))) 24 := (hr139.alloc _).drew
          have hsat : SAt (W9.alloc (.cells #[.int .i64 tos, .int .i64 id, .int .i64 ttl, .int .i64 proto, .bool df, .bool true, .int .i64 off, .string ⟨src.toArray⟩, .string ⟨dst.toArray⟩, .string ⟨opt.toArray⟩, .slice a5 n z5] 24)).drew (fun _ => True) 11 (.slice (some ⟨W9.heap.size, 0, none⟩) 1 1) 1 (p4cells ⟨tos, id, ttl, proto, df, true, off, src, dst, opt, T1⟩ (.slice a5 n z5)).toList := (sat_one W9 ⟨tos, id, ttl, proto, df, true, off, src, dst, opt, T1⟩ (.slice a5 n z5) 24).keeps (Keeps.refl (fun _ => False) _).drew (fun _ _ h => h)
          have hba := (hb9.keeps (((Keeps.refl (fun _ => False) W9).alloc (.cells #[.int .i64 tos, .int .i64 id, .int .i64 ttl, .int .i64 proto, .bool df, .bool true, .int .i64 off, .string ⟨src.toArray⟩, .string ⟨dst.toArray⟩, .string ⟨opt.toArray⟩, .slice a5 n z5] 24)).drew) (fun _ _ h => h)).mono (q := fun b => v.ownBlock ≠ some b) (fun b hb e => by have := (hvb b e).2; omega)
          have hCa := And.intro hr13a hr12a
          refine anyT_force (i := 5) rfl (by kernel_rfl) (by rfl) ?_
          go_simp
          generalize (W9.alloc (.cells #[.int .i64 tos, .int .i64 id, .int .i64 ttl, .int .i64 proto, .bool df, .bool true, .int .i64 off, .string ⟨src.toArray⟩, .string ⟨dst.toArray⟩, .string ⟨opt.toArray⟩, .slice a5 n z5] 24)).drew = Wa at *
          obtain ⟨v1, Wb, hrun, hob, hkb, hplace⟩ := run_append_p4 (ty := 26) (p := ⟨tos, id, ttl, proto, df, true, off, src, dst, opt, T1⟩) (hown.keeps hkI) rfl hsat hba (by omega) (by have := hkI.size; omega)
          have hCb : RowAt Wb s (p4cells ⟨tos, id, ttl, proto, df, mf, off + (n : Int), src, dst, later, T2⟩ (.slice (some ⟨db, do_ + n, none⟩) (data.length - n) (dc - n))) 24 ∧ RowAt Wb x (p4cells ⟨tos, id, ttl, proto, df, true, off, src, dst, opt, T1⟩ (.slice a5 n z5)) 24 :=
            ⟨hr13a.keeps hkb (fun e => by have := (hvb _ e).2; omega), hr12a.keeps hkb (fun e => by have := (hvb _ e).2; omega)⟩
          refine anyT_force (i := 6) rfl (by kernel_rfl) (by rfl) ?_
          refine Lib.wp_append_run _ _ _ _ _ rfl _ _ rfl rfl _ _ hrun ?_
          refine ⟨fun _ => hCb, ?_⟩
          simp only [Act.put, List.getElem_toArray, List.getElem_cons_succ, List.getElem_cons_zero, List.setIfInBounds_toArray, List.set_cons_zero, List.set_cons_succ]
          have hkJ : Keeps (fun b => v.ownBlock = some b) w Wb := (hkI.mono (fun _ _ h => h.elim)).trans hkb (fun _ _ h => h)
          have hIH := IH.out ⟨tos, id, ttl, proto, df, mf, off + (n : Int), src, dst, later, T2⟩ (.slice (some ⟨db, do_ + n, none⟩) (data.length - n) (dc - n)) v1 (qs ++ [(⟨tos, id, ttl, proto, df, true, off, src, dst, opt, T1⟩, .slice a5 n z5)]) Wb (by show T2.length < f; omega) hl (by show _ ≤ off + (n : Int); omega) (by show off + (n : Int) + (T2.length : Int) ≤ _; omega) (by have := hkJ.size; omega)
            (hdrop.keeps hkJ (fun b hb e => by have := (hvb b e).1; omega)) hob (by rw [List.length_append]; simp only [List.length_cons, List.length_nil]; omega)
          have hiJ := hkI.size
          clear hrun hob hkb hCa hCb hr12a hr13a hsat hba hb9 hkI hr129 hr139 hkH hC
          unfold Pieced at hIH
          obtain ⟨o, hO⟩ : ∃ o, piecesF f ⟨tos, id, ttl, proto, df, mf, off + (n : Int), src, dst, later, T2⟩ mtu later = o := ⟨_, rfl⟩
          rw [hO] at hIH
          have HO := Lib.hid hO
          clear hO hi9 hnn
          have HIH := Lib.hid hIH
          clear hIH
          have back : ∀ {W' : World}, Keeps (fun b => v1.ownBlock = some b) Wb W' → Keeps (fun b => v.ownBlock = some b) w W' := fun hk => hkJ.trans hk (fun i hi e => by
            rcases hplace with h | ⟨b, h, h'⟩
            · rw [← h]; exact e
            · rw [h] at e
              have : b = i := by simpa using e
              omega)
          cases o with
          | none =>
            refine anyT_force (i := 7) rfl (by kernel_rfl) (by rfl) ?_
            go_simp
            refine HIH.out.mono ?_
            rintro e W' ⟨hk', rfl⟩
            refine ⟨fun hy => absurd (hy 7 (by simp)) (by simp), ?_⟩
            refine anyT_restart [] (fun _ => True) ⟨7, by rfl, by simp⟩ ?_
            have hC : (fun _ : World => True) W' := trivial
            refine anyT_take0 (i := 8) (v := ?_) rfl (by kernel_rfl) (by kernel_rfl) (by kernel_rfl) (by kernel_rfl) (by kernel_rfl) (fun _ _ _ h => h) hC (.inl ⟨by rfl, fun _ _ => ?_⟩) ?_
            rotate_left 1
            · go_simp
              try with_reducible rfl
            simp only [Act.put, List.getElem_toArray, List.getElem_cons_succ, List.getElem_cons_zero, List.setIfInBounds_toArray, List.set_cons_zero, List.set_cons_succ]
            refine anyT_take0 (i := 9) (v := ?_) rfl (by kernel_rfl) (by kernel_rfl) (by kernel_rfl) (by kernel_rfl) (by kernel_rfl) (fun _ _ _ h => h) hC (.inl ⟨by rfl, fun _ _ => ?_⟩) ?_
            rotate_left 1
            · go_simp
              try with_reducible rfl
            simp only [Act.put, List.getElem_toArray, List.getElem_cons_succ, List.getElem_cons_zero, List.setIfInBounds_toArray, List.set_cons_zero, List.set_cons_succ]
            refine anyT_take0 (i := 10) (v := ?_) rfl (by kernel_rfl) (by kernel_rfl) (by kernel_rfl) (by kernel_rfl) (by kernel_rfl) (fun _ _ _ h => h) hC (.inl ⟨by rfl, fun _ _ => ?_⟩) ?_
            rotate_left 1
            · go_simp
              try with_reducible rfl
            simp only [Act.put, List.getElem_toArray, List.getElem_cons_succ, List.getElem_cons_zero, List.setIfInBounds_toArray, List.set_cons_zero, List.set_cons_succ]
            refine anyT_take0 (i := 11) (v := ?_) rfl (by kernel_rfl) (by kernel_rfl) (by kernel_rfl) (by kernel_rfl) (by kernel_rfl) (fun _ _ _ h => h) hC (.inl ⟨by rfl, fun _ _ => ?_⟩) ?_
            rotate_left 1
            · go_simp
              try with_reducible rfl
            simp only [Act.put, List.getElem_toArray, List.getElem_cons_succ, List.getElem_cons_zero, List.setIfInBounds_toArray, List.set_cons_zero, List.set_cons_succ]
            refine (show anyT _ _ _ _ _ _ 0 _ _ _ from ⟨by kernel_rfl, ?_⟩)
            go_wp2
            go_ret2
            unfold Pieced
            rw [HO.out]
            exact ⟨back hk', rfl⟩
          | some L =>
            refine anyT_force (i := 7) rfl (by kernel_rfl) (by rfl) ?_
            go_simp
            refine HIH.out.mono ?_
            rintro e W' ⟨hk', v', qs', rfl, hm', ho'⟩
            refine ⟨fun hy => absurd (hy 7 (by simp)) (by simp), ?_⟩
            refine anyT_restart [] (fun _ => True) ⟨7, by rfl, by simp⟩ ?_
            have hC : (fun _ : World => True) W' := trivial
            refine anyT_take0 (i := 8) (v := ?_) rfl (by kernel_rfl) (by kernel_rfl) (by kernel_rfl) (by kernel_rfl) (by kernel_rfl) (fun _ _ _ h => h) hC (.inl ⟨by rfl, fun _ _ => ?_⟩) ?_
            rotate_left 1
            · go_simp
              try with_reducible rfl
            simp only [Act.put, List.getElem_toArray, List.getElem_cons_succ, List.getElem_cons_zero, List.setIfInBounds_toArray, List.set_cons_zero, List.set_cons_succ]
            refine anyT_take0 (i := 9) (v := ?_) rfl (by kernel_rfl) (by kernel_rfl) (by kernel_rfl) (by kernel_rfl) (by kernel_rfl) (fun _ _ _ h => h) hC (.inl ⟨by rfl, fun _ _ => ?_⟩) ?_
            rotate_left 1
            · go_simp
              try with_reducible rfl
            simp only [Act.put, List.getElem_toArray, List.getElem_cons_succ, List.getElem_cons_zero, List.setIfInBounds_toArray, List.set_cons_zero, List.set_cons_succ]
            refine anyT_take0 (i := 10) (v := ?_) rfl (by kernel_rfl) (by kernel_rfl) (by kernel_rfl) (by kernel_rfl) (by kernel_rfl) (fun _ _ _ h => h) hC (.inl ⟨by rfl, fun _ _ => ?_⟩) ?_
            rotate_left 1
            · go_simp
              try with_reducible rfl
            simp only [Act.put, List.getElem_toArray, List.getElem_cons_succ, List.getElem_cons_zero, List.setIfInBounds_toArray, List.set_cons_zero, List.set_cons_succ]
            refine anyT_take0 (i := 11) (v := ?_) rfl (by kernel_rfl) (by kernel_rfl) (by kernel_rfl) (by kernel_rfl) (by kernel_rfl) (fun _ _ _ h => h) hC (.inl ⟨by rfl, fun _ _ => ?_⟩) ?_
            rotate_left 1
            · go_simp
              try with_reducible rfl
            simp only [Act.put, List.getElem_toArray, List.getElem_cons_succ, List.getElem_cons_zero, List.setIfInBounds_toArray, List.set_cons_zero, List.set_cons_succ]
            refine (show anyT _ _ _ _ _ _ 0 _ _ _ from ⟨by kernel_rfl, ?_⟩)
            go_wp2
            go_ret2
            unfold Pieced
            rw [HO.out]
            exact ⟨back hk', v', qs', rfl, by rw [hm']; simp, ho'⟩
end Go.Proofs.YtngpbihnmgjniaaDoor
