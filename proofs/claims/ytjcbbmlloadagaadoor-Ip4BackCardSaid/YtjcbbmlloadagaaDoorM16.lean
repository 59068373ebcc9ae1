/- Words, walks and plain laws that the claim leans on, part 16. -/
import Derived.Test.YtjcbbmlloadagaaDoorM14
import Derived.Test.YtjcbbmlloadagaaDoorPQx2
import Derived.Test.YtjcbbmlloadagaaDoorPQx3

/-! The options of a text: what both programs tell (the printed functions), plainly. -/
namespace Go.Proofs.YtjcbbmlloadagaaDoor
set_option linter.unusedVariables false
set_option linter.unusedSimpArgs false
open Go.RowKit Go.Proofs.YtjcbbmlloadagaaDoor.PQ Go.Proofs.YtjcbbmlloadagaaDoorW.PrintWords

/-- What a text tells: options one by one, or none. -/
def optS : Nat → List UInt8 → Option (List S41)
  | 0, _ => some []
  | f + 1, s => if s.length = 0 ∨ byF s 0 = 0 then some [] else if byF s 0 = 1 then (optS f (s.drop 1)).map (⟨1, ⟨#[]⟩⟩ :: ·)
    else if s.length < 2 ∨ byF s 1 < 2 ∨ s.length < byF s 1 then none else (optS f (s.drop (byF s 1))).map (⟨(byF s 0 : Int), ⟨((s.drop 2).take (byF s 1 - 2)).toArray⟩⟩ :: ·)
def optF (s : List UInt8) : List S41 × Int := match optS s.length s with
  | some L => (L, 0)
  | none => ([], 4)
def endO (A : List S41) : Option (List S41) → List S41 × Int
  | some L => (A ++ L, 0)
  | none => ([], 4)
theorem endO_map (A : List S41) (x : S41) (o : Option (List S41)) : endO A (o.map (x :: ·)) = endO (A ++ [x]) o := by
  cases o <;> simp [endO]
theorem bt_list (m : List UInt8) (i : Nat) : bt ⟨m.toArray⟩ (i : Int) = (byF m i : Int) := by
  unfold bt
  by_cases h : i < m.length
  · rw [dif_pos (by rw [Int.toNat_natCast, str_size]; exact h)]
    rw [str_index]
    rw [Int.toNat_natCast]
  · rw [dif_neg (by rw [Int.toNat_natCast, str_size]; exact h)]
    simp [byF, List.getD_eq_getElem?_getD, List.getElem?_eq_none (by omega : m.length ≤ i)]
theorem w64 (x : Int) (h : -9223372036854775808 ≤ x ∧ x ≤ 9223372036854775807) : wrap64 x = x := by unfold wrap64; omega

theorem options_is : ∀ (n : Nat) (m : List UInt8) (A : List S41) (k : Nat), m.length ≤ n → A.length + m.length ≤ 100000 → 2 * n + 2 ≤ k → ip4_Options.l0 k ⟨m.toArray⟩ A = some (endO A (optS n m)) := by
  intro n
  induction n with
  | zero =>
    intro m A k hm hA hk
    obtain rfl : m = [] := List.eq_nil_of_length_eq_zero (by omega)
    obtain ⟨k, rfl⟩ : ∃ q, k = q + 2 := ⟨k - 2, by omega⟩
    simp [ip4_Options.l0, ip4_Options.j1, optS, endO, ByteArray.size]
  | succ n ih =>
    intro m A k hm hA hk
    obtain ⟨k, rfl⟩ : ∃ q, k = q + 2 := ⟨k - 2, by omega⟩
    have hs := str_size m
    have b0 : bt ⟨m.toArray⟩ 0 = (byF m 0 : Int) := bt_list m 0
    have b1 : bt ⟨m.toArray⟩ 1 = (byF m 1 : Int) := bt_list m 1
    have l0 := byF_lt m 0
    have l1 := byF_lt m 1
    by_cases h0 : m.length = 0
    · have e : optS (n + 1) m = some [] := by unfold optS; rw [if_pos (.inl h0)]
      rw [ip4_Options.l0, hs, if_neg (by omega), ip4_Options.j1, if_neg (by decide), e]
      simp [endO]
    · have p0 : (m.length : Int) > 0 := by omega
      have p0' : (0 : Int) < (m.length : Int) := by omega
      rw [ip4_Options.l0, hs, if_pos p0, if_pos p0', b0]
      by_cases hz : byF m 0 = 0
      · have e : optS (n + 1) m = some [] := by unfold optS; rw [if_pos (.inr hz)]
        have z : (((byF m 0 : Nat) : Int) != 0) = false := by rw [hz]; rfl
        rw [z, ip4_Options.j1, if_neg (by decide), e]
        simp [endO]
      · have z : (((byF m 0 : Nat) : Int) != 0) = true := by simp; omega
        have nz : ¬ (m.length = 0 ∨ byF m 0 = 0) := fun h => h.elim h0 hz
        rw [z, ip4_Options.j1, if_pos rfl, hs, if_pos p0', b0, b1]
        by_cases h1 : byF m 0 = 1
        · have e : optS (n + 1) m = (optS n (m.drop 1)).map (⟨1, ⟨#[]⟩⟩ :: ·) := by
            conv => lhs; unfold optS
            rw [if_neg nz, if_pos h1]
          have := ih (m.drop 1) (A ++ [⟨1, ⟨#[]⟩⟩]) k (by rw [List.length_drop]; omega) (by rw [List.length_append, List.length_drop, List.length_singleton]; omega) (by omega)
          rw [if_pos (by omega), if_pos (by omega), if_pos (by omega), e, endO_map, ← this, str_extract, List.take_of_length_le (by rw [List.length_drop]; exact Nat.le_refl _)]
        · rw [if_neg (by omega)]
          by_cases c : m.length < 2 ∨ byF m 1 < 2 ∨ m.length < byF m 1
          · have e : optS (n + 1) m = none := by
              conv => lhs; unfold optS
              rw [if_neg nz, if_neg h1, if_pos c]
            rw [e]
            by_cases c1 : m.length < 2
            · rw [if_pos (by omega)]; rfl
            · rw [if_neg (by omega), if_pos (by omega)]
              by_cases c2 : byF m 1 < 2
              · rw [if_pos (by omega)]; rfl
              · rw [if_neg (by omega), w64 _ (by omega), if_pos (by omega)]; rfl
          · have e : optS (n + 1) m = (optS n (m.drop (byF m 1))).map (⟨(byF m 0 : Int), ⟨((m.drop 2).take (byF m 1 - 2)).toArray⟩⟩ :: ·) := by
              conv => lhs; unfold optS
              rw [if_neg nz, if_neg h1, if_neg c]
            have := ih (m.drop (byF m 1)) (A ++ [⟨(byF m 0 : Int), ⟨((m.drop 2).take (byF m 1 - 2)).toArray⟩⟩]) k (by rw [List.length_drop]; omega) (by rw [List.length_append, List.length_drop, List.length_singleton]; omega) (by omega)
            have x1 : (ByteArray.mk m.toArray).extract (byF m 1) m.length = ⟨(m.drop (byF m 1)).toArray⟩ := by rw [str_extract, List.take_of_length_le (by rw [List.length_drop]; exact Nat.le_refl _)]
            have x2 : (ByteArray.mk m.toArray).extract 2 (byF m 1) = ⟨((m.drop 2).take (byF m 1 - 2)).toArray⟩ := str_extract m 2 (byF m 1)
            have y0 : Hid (wrap64 ((byF m 0 : Nat) : Int) = (byF m 0 : Int)) := Lib.hid (w64 _ (by omega))
            have y1 : Hid (wrap64 ((byF m 1 : Nat) : Int) = (byF m 1 : Int)) := Lib.hid (w64 _ (by omega))
            rw [if_neg (by omega), if_pos (by omega), if_neg (by omega), y1.out, if_neg (by omega), if_pos (by omega), if_pos (by omega), if_pos (by omega), if_pos (by omega), y0.out, Int.toNat_natCast, x1, x2, e, endO_map, this]

theorem roptions_is (M : List UInt8) (hM : M.length ≤ 100000) : ∀ (n i : Nat) (A : List S41) (k : Nat), i ≤ M.length → M.length - i ≤ n → A.length + (M.length - i) ≤ 100000 → 2 * n + 2 ≤ k → redoubtref03_Options.l0 k ⟨M.toArray⟩ A (i : Int) = some (endO A (optS n (M.drop i))) := by
  intro n
  induction n with
  | zero =>
    intro i A k hi hm hA hk
    obtain ⟨k, rfl⟩ : ∃ q, k = q + 2 := ⟨k - 2, by omega⟩
    have hs := str_size M
    rw [redoubtref03_Options.l0, hs, if_neg (by omega), redoubtref03_Options.j1, if_neg (by decide)]
    simp [optS, endO]
  | succ n ih =>
    intro i A k hi hm hA hk
    obtain ⟨k, rfl⟩ : ∃ q, k = q + 2 := ⟨k - 2, by omega⟩
    have hs := str_size M
    obtain ⟨m, hmm⟩ : ∃ m, M.drop i = m := ⟨_, rfl⟩
    have hml : m.length = M.length - i := by rw [← hmm, List.length_drop]
    have b0 : bt ⟨M.toArray⟩ (i : Int) = (byF m 0 : Int) := by rw [bt_list, ← hmm, byF_drop, Nat.add_zero]
    have b1 : bt ⟨M.toArray⟩ ((i : Int) + 1) = (byF m 1 : Int) := by
      have := bt_list M (i + 1)
      rw [← hmm, byF_drop]
      simpa using this
    have l0 := byF_lt m 0
    have l1 := byF_lt m 1
    have w1 : Hid (wrap64 ((i : Int) + 1) = (i : Int) + 1) := Lib.hid (w64 _ (by omega))
    have w2 : Hid (wrap64 ((i : Int) + 2) = (i : Int) + 2) := Lib.hid (w64 _ (by omega))
    have w3 : Hid (wrap64 ((byF m 1 : Nat) : Int) = (byF m 1 : Int)) := Lib.hid (w64 _ (by omega))
    have w4 : Hid (wrap64 ((i : Int) + (byF m 1 : Int)) = (i : Int) + (byF m 1 : Int)) := Lib.hid (w64 _ (by omega))
    by_cases h0 : m.length = 0
    · have e : optS (n + 1) m = some [] := by unfold optS; rw [if_pos (.inl h0)]
      rw [hmm, redoubtref03_Options.l0, hs, if_neg (by omega), redoubtref03_Options.j1, if_neg (by decide), e]
      simp [endO]
    · have p0 : (i : Int) < (M.length : Int) := by omega
      have p0' : (0 : Int) ≤ (i : Int) := by omega
      rw [hmm, redoubtref03_Options.l0, hs, if_pos p0, if_pos p0', b0]
      by_cases hz : byF m 0 = 0
      · have e : optS (n + 1) m = some [] := by unfold optS; rw [if_pos (.inr hz)]
        have z : (((byF m 0 : Nat) : Int) != 0) = false := by rw [hz]; rfl
        rw [z, redoubtref03_Options.j1, if_neg (by decide), e]
        simp [endO]
      · have z : (((byF m 0 : Nat) : Int) != 0) = true := by simp; omega
        have nz : ¬ (m.length = 0 ∨ byF m 0 = 0) := fun h => h.elim h0 hz
        rw [z, redoubtref03_Options.j1, if_pos rfl, hs, if_pos p0', if_pos p0, w1.out, w2.out, b0, b1, w3.out, w4.out]
        by_cases h1 : byF m 0 = 1
        · have e : optS (n + 1) m = (optS n (m.drop 1)).map (⟨1, ⟨#[]⟩⟩ :: ·) := by
            conv => lhs; unfold optS
            rw [if_neg nz, if_pos h1]
          have := ih (i + 1) (A ++ [⟨1, ⟨#[]⟩⟩]) k (by omega) (by omega) (by rw [List.length_append, List.length_singleton]; omega) (by omega)
          rw [if_pos (by omega), if_pos (by omega), e, endO_map, show ((i : Int) + 1) = ((i + 1 : Nat) : Int) by omega, this, ← hmm, List.drop_drop]
        · rw [if_neg (by omega)]
          by_cases c : m.length < 2 ∨ byF m 1 < 2 ∨ m.length < byF m 1
          · have e : optS (n + 1) m = none := by
              conv => lhs; unfold optS
              rw [if_neg nz, if_neg h1, if_pos c]
            rw [e]
            by_cases c1 : m.length < 2
            · rw [if_pos (by omega)]; rfl
            · rw [if_neg (by omega), if_pos (by omega), if_pos (by omega)]
              by_cases c2 : byF m 1 < 2
              · rw [if_pos (by omega)]; rfl
              · rw [if_neg (by omega), if_pos (by omega)]; rfl
          · have e : optS (n + 1) m = (optS n (m.drop (byF m 1))).map (⟨(byF m 0 : Int), ⟨((m.drop 2).take (byF m 1 - 2)).toArray⟩⟩ :: ·) := by
              conv => lhs; unfold optS
              rw [if_neg nz, if_neg h1, if_neg c]
            have := ih (i + byF m 1) (A ++ [⟨(byF m 0 : Int), ⟨((m.drop 2).take (byF m 1 - 2)).toArray⟩⟩]) k (by omega) (by omega) (by rw [List.length_append, List.length_singleton]; omega) (by omega)
            rw [← List.drop_drop, hmm] at this
            have x2 : (ByteArray.mk M.toArray).extract (i + 2) (i + byF m 1) = ⟨((m.drop 2).take (byF m 1 - 2)).toArray⟩ := by
              rw [str_extract, show M.drop (i + 2) = m.drop 2 by rw [← hmm, List.drop_drop], show i + byF m 1 - (i + 2) = byF m 1 - 2 by omega]
            have y0 : Hid (wrap64 ((byF m 0 : Nat) : Int) = (byF m 0 : Int)) := Lib.hid (w64 _ (by omega))
            rw [if_neg (by omega), if_pos (by omega), if_pos (by omega), if_neg (by omega), if_neg (by omega), if_pos (by omega), if_pos (by omega), if_pos (by omega), if_pos (by omega), y0.out, e, endO_map, show ((i : Int) + (byF m 1 : Int)) = ((i + byF m 1 : Nat) : Int) by omega, show ((i : Int) + 2).toNat = i + 2 by omega, Int.toNat_natCast, x2, this]

theorem exts_is (L : List S41) (hL : L.length ≤ 100000) : ∀ (n i k : Nat), L.length - i ≤ n → i ≤ L.length → n + 1 ≤ k → redoubtref03_Exts.l0 k L L (i : Int) = some true := by
  intro n
  induction n with
  | zero =>
    intro i k h1 h2 h3
    obtain ⟨k, rfl⟩ : ∃ q, k = q + 1 := ⟨k - 1, by omega⟩
    simp only [redoubtref03_Exts.l0]
    rw [if_neg (by omega)]
  | succ n ih =>
    intro i k h1 h2 h3
    obtain ⟨k, rfl⟩ : ∃ q, k = q + 1 := ⟨k - 1, by omega⟩
    simp only [redoubtref03_Exts.l0]
    by_cases h : i < L.length
    · rw [if_pos (by omega), if_pos (by omega), if_pos (by omega), if_neg (by simp), w64 _ (by omega)]
      exact ih (i + 1) k (by omega) (by omega) (by omega)
    · rw [if_neg (by omega)]
end Go.Proofs.YtjcbbmlloadagaaDoor

/-! The contracts of both Options and of Exts. -/
namespace Go.Proofs.YtjcbbmlloadagaaDoor
set_option linter.unusedVariables false
set_option linter.unusedSimpArgs false
open Go.RowKit Go.Proofs.YtjcbbmlloadagaaDoor.PQ Go.Proofs.YtjcbbmlloadagaaDoorW.PrintWords

/-- A row of options that is read. -/
def XRd (w : World) (v : Value) (L : List S41) : Prop := ∃ A c, v = .slice A L.length c ∧ L.length ≤ c ∧ Kd.C k41 w A L.length L
theorem XRd.keeps {w w' : World} {v : Value} {L : List S41} (h : XRd w v L) (hk : Keeps (fun _ => False) w w') : XRd w' v L := by
  obtain ⟨A, c, rfl, h1, h2⟩ := h
  exact ⟨A, c, rfl, h1, Kd.C_below h2 (hk.below _ (Nat.le_refl _) (fun _ _ h => h))⟩
theorem XRd.ofR {w : World} {v : Value} {L : List S41} {b : Nat} {ok : Nat → Prop} (h : Kd.R k41 41 w b ok v L) : XRd w v L := by
  obtain ⟨A, c, rfl⟩ := Kd.R_slice h
  exact ⟨A, c, rfl, (Kd.R_reads' h).2.1, (Kd.R_reads' h).2.2⟩
theorem opts_any (m : List UInt8) (w : World) (hm : m.length ≤ 100000) :
    Calls Tryd.prog 11 #[.string ⟨m.toArray⟩] w fun e w' => ∃ v, e = .returned (.tuple #[v, .int .i64 (optF m).2]) ∧ XRd w' v (optF m).1 ∧ Keeps (fun _ => False) w w' := by
  have h : ip4_Options.f (2 * m.length + 2) ⟨m.toArray⟩ = some ((optF m).1, (optF m).2) := by
    unfold ip4_Options.f
    rw [options_is m.length m [] _ (Nat.le_refl _) (by simpa using hm) (Nat.le_refl _)]
    unfold optF
    cases optS m.length m <;> simp [endO]
  refine (ip4_Options.calls _ _ _ _ w h).mono ?_
  rintro e w' ⟨v, rfl, hr, hb⟩
  exact ⟨v, rfl, XRd.ofR hr, Keeps.of_below hb _⟩
theorem ropts_any (m : List UInt8) (w : World) (hm : m.length ≤ 100000) :
    Calls Tryd.prog 12 #[.string ⟨m.toArray⟩] w fun e w' => ∃ v, e = .returned (.tuple #[v, .int .i64 (optF m).2]) ∧ XRd w' v (optF m).1 ∧ Keeps (fun _ => False) w w' := by
  have h : redoubtref03_Options.f (2 * m.length + 2) ⟨m.toArray⟩ = some ((optF m).1, (optF m).2) := by
    unfold redoubtref03_Options.f
    have := roptions_is m hm m.length 0 [] (2 * m.length + 2) (Nat.zero_le _) (by omega) (by simpa using hm) (Nat.le_refl _)
    rw [List.drop_zero] at this
    refine this.trans ?_
    unfold optF
    cases optS m.length m <;> simp [endO]
  refine (redoubtref03_Options.calls _ _ _ _ w h).mono ?_
  rintro e w' ⟨v, rfl, hr, hb⟩
  exact ⟨v, rfl, XRd.ofR hr, Keeps.of_below hb _⟩
theorem exts_any (x y : Value) (L : List S41) (w : World) (hL : L.length ≤ 100000) (hx : XRd w x L) (hy : XRd w y L) :
    Calls Tryd.prog 15 #[x, y] w fun e w' => e = .returned (.bool true) ∧ Keeps (fun _ => False) w w' := by
  obtain ⟨A, c, rfl, h1, h2⟩ := hx
  obtain ⟨B, d, rfl, h3, h4⟩ := hy
  have h : redoubtref03_Exts.f (L.length + 1) L L = some true := by
    unfold redoubtref03_Exts.f
    rw [if_pos rfl]
    exact exts_is L hL L.length 0 _ (by omega) (Nat.zero_le _) (Nat.le_refl _)
  refine (redoubtref03_Exts.calls _ A c L B d L true w h2 h1 h4 h3 h).mono ?_
  rintro e w' ⟨rfl, n, rfl⟩
  exact ⟨rfl, (Keeps.refl _ _).drewN n⟩
theorem optF_le (m : List UInt8) : (optF m).1.length ≤ m.length := by
  have : ∀ (n : Nat) (m : List UInt8) (L : List S41), m.length ≤ n → optS n m = some L → L.length ≤ m.length := by
    intro n
    induction n with
    | zero => intro m L _ h; simp [optS] at h; simp [h]
    | succ n ih =>
      intro m L hm h
      unfold optS at h
      split at h
      · simp at h; simp [h]
      · rename_i h0
        have hl : 0 < m.length := Nat.pos_of_ne_zero fun e => h0 (.inl e)
        split at h
        · cases hq : optS n (m.drop 1) with
          | none => rw [hq] at h; cases h
          | some L' =>
            rw [hq] at h
            simp at h
            have := ih _ _ (by rw [List.length_drop]; omega) hq
            rw [List.length_drop] at this
            rw [← h]; simp; omega
        · split at h
          · cases h
          · rename_i h2
            cases hq : optS n (m.drop (byF m 1)) with
            | none => rw [hq] at h; cases h
            | some L' =>
              rw [hq] at h
              simp at h
              have := ih _ _ (by rw [List.length_drop]; omega) hq
              rw [List.length_drop] at this
              rw [← h]; simp; omega
  unfold optF
  cases hq : optS m.length m with
  | none => simp
  | some L => exact this _ _ _ (Nat.le_refl _) hq
end Go.Proofs.YtjcbbmlloadagaaDoor
