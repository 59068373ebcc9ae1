/- Words, walks and plain laws that the claim leans on, part 15. -/
import Derived.Test.YtngpbihnmgjniaaDoorM14
import Derived.Test.YtngpbihnmgjniaaDoorPQx1

/-! The options of a text: what both programs tell (the printed functions), plainly. -/
namespace Go.Proofs.YtngpbihnmgjniaaDoor
set_option linter.unusedVariables false
set_option linter.unusedSimpArgs false
open Go.RowKit Go.Proofs.YtngpbihnmgjniaaDoor.PQ Go.Proofs.YtngpbihnmgjniaaDoorW.PrintWords

/-- What a text tells: options one by one, or none. -/
def optS : Nat → List UInt8 → Option (List S53)
  | 0, _ => some []
  | f + 1, s => if s.length = 0 ∨ byF s 0 = 0 then some [] else if byF s 0 = 1 then (optS f (s.drop 1)).map (⟨1, ⟨#[]⟩⟩ :: ·)
    else if s.length < 2 ∨ byF s 1 < 2 ∨ s.length < byF s 1 then none else (optS f (s.drop (byF s 1))).map (⟨(byF s 0 : Int), ⟨((s.drop 2).take (byF s 1 - 2)).toArray⟩⟩ :: ·)
def optF (s : List UInt8) : List S53 × Int := match optS s.length s with
  | some L => (L, 0)
  | none => ([], 4)
def endO (A : List S53) : Option (List S53) → List S53 × Int
  | some L => (A ++ L, 0)
  | none => ([], 4)
theorem endO_map (A : List S53) (x : S53) (o : Option (List S53)) : endO A (o.map (x :: ·)) = endO (A ++ [x]) o := by
  cases o <;> simp [endO]
theorem bt_list (m : List UInt8) (i : Nat) : bt ⟨m.toArray⟩ (i : Int) = (byF m i : Int) := by
  unfold bt
  by_cases h : i < m.length
  · rw [dif_pos (by rw [Int.toNat_natCast, str_size]; exact h)]
    rw [str_index]
    rw [Int.toNat_natCast]
  · rw [dif_neg (by rw [Int.toNat_natCast, str_size]; exact h)]
    simp [byF, List.getD_eq_getElem?_getD, List.getElem?_eq_none (by omega : m.length ≤ i)]
theorem w64 (x : Int) (h : -9223372036854775808 ≤ x ∧ x ≤ 9223372036854775807) : wrap64 x = x := by unfold wrap64; omega

theorem options_is : ∀ (n : Nat) (m : List UInt8) (A : List S53) (k : Nat), m.length ≤ n → A.length + m.length ≤ 100000 → 2 * n + 2 ≤ k → ip4_Options.l0 k ⟨m.toArray⟩ A = some (endO A (optS n m)) := by
  intro n
  induction n with
  | zero =>
    intro m A k hm hA hk
    obtain rfl : m = [] := List.eq_nil_of_length_eq_zero (by omega)
    obtain ⟨k, rfl⟩ : ∃ q, k = q + 2 := ⟨k - 2, by omega⟩
    simp [ip4_Options.l0, ip4_Options.j1, optS, endO, ByteArray.size]
  | succ n ih =>
    intro m A k hm hA hk
    obtain ⟨k, rfl⟩ : ∃ q, k = q + 2 := ⟨k - 2, by omega⟩
    have hs := str_size m
    have b0 : bt ⟨m.toArray⟩ 0 = (byF m 0 : Int) := bt_list m 0
    have b1 : bt ⟨m.toArray⟩ 1 = (byF m 1 : Int) := bt_list m 1
    have l0 := byF_lt m 0
    have l1 := byF_lt m 1
    by_cases h0 : m.length = 0
    · have e : optS (n + 1) m = some [] := by unfold optS; rw [if_pos (.inl h0)]
      rw [ip4_Options.l0, hs, if_neg (by omega), ip4_Options.j1, if_neg (by decide), e]
      simp [endO]
    · have p0 : (m.length : Int) > 0 := by omega
      have p0' : (0 : Int) < (m.length : Int) := by omega
      rw [ip4_Options.l0, hs, if_pos p0, if_pos p0', b0]
      by_cases hz : byF m 0 = 0
      · have e : optS (n + 1) m = some [] := by unfold optS; rw [if_pos (.inr hz)]
        have z : (((byF m 0 : Nat) : Int) != 0) = false := by rw [hz]; rfl
        rw [z, ip4_Options.j1, if_neg (by decide), e]
        simp [endO]
      · have z : (((byF m 0 : Nat) : Int) != 0) = true := by simp; omega
        have nz : ¬ (m.length = 0 ∨ byF m 0 = 0) := fun h => h.elim h0 hz
        rw [z, ip4_Options.j1, if_pos rfl, hs, if_pos p0', b0, b1]
        by_cases h1 : byF m 0 = 1
        · have e : optS (n + 1) m = (optS n (m.drop 1)).map (⟨1, ⟨#[]⟩⟩ :: ·) := by
            conv => lhs; unfold optS
            rw [if_neg nz, if_pos h1]
          have := ih (m.drop 1) (A ++ [⟨1, ⟨#[]⟩⟩]) k (by rw [List.length_drop]; omega) (by rw [List.length_append, List.length_drop, List.length_singleton]; omega) (by omega)
          rw [if_pos (by omega), if_pos (by omega), if_pos (by omega), e, endO_map, ← this, str_extract, List.take_of_length_le (by rw [List.length_drop]; exact Nat.le_refl _)]
        · rw [if_neg (by omega)]
          by_cases c : m.length < 2 ∨ byF m 1 < 2 ∨ m.length < byF m 1
          · have e : optS (n + 1) m = none := by
              conv => lhs; unfold optS
              rw [if_neg nz, if_neg h1, if_pos c]
            rw [e]
            by_cases c1 : m.length < 2
            · rw [if_pos (by omega)]; rfl
            · rw [if_neg (by omega), if_pos (by omega)]
              by_cases c2 : byF m 1 < 2
              · rw [if_pos (by omega)]; rfl
              · rw [if_neg (by omega), w64 _ (by omega), if_pos (by omega)]; rfl
          · have e : optS (n + 1) m = (optS n (m.drop (byF m 1))).map (⟨(byF m 0 : Int), ⟨((m.drop 2).take (byF m 1 - 2)).toArray⟩⟩ :: ·) := by
              conv => lhs; unfold optS
              rw [if_neg nz, if_neg h1, if_neg c]
            have := ih (m.drop (byF m 1)) (A ++ [⟨(byF m 0 : Int), ⟨((m.drop 2).take (byF m 1 - 2)).toArray⟩⟩]) k (by rw [List.length_drop]; omega) (by rw [List.length_append, List.length_drop, List.length_singleton]; omega) (by omega)
            have x1 : (ByteArray.mk m.toArray).extract (byF m 1) m.length = ⟨(m.drop (byF m 1)).toArray⟩ := by rw [str_extract, List.take_of_length_le (by rw [List.length_drop]; exact Nat.le_refl _)]
            have x2 : (ByteArray.mk m.toArray).extract 2 (byF m 1) = ⟨((m.drop 2).take (byF m 1 - 2)).toArray⟩ := str_extract m 2 (byF m 1)
            have y0 : Hid (wrap64 ((byF m 0 : Nat) : Int) = (byF m 0 : Int)) := Lib.hid (w64 _ (by omega))
            have y1 : Hid (wrap64 ((byF m 1 : Nat) : Int) = (byF m 1 : Int)) := Lib.hid (w64 _ (by omega))
            rw [if_neg (by omega), if_pos (by omega), if_neg (by omega), y1.out, if_neg (by omega), if_pos (by omega), if_pos (by omega), if_pos (by omega), if_pos (by omega), y0.out, Int.toNat_natCast, x1, x2, e, endO_map, this]

end Go.Proofs.YtngpbihnmgjniaaDoor

/-! The contracts of both Options and of Exts. -/
namespace Go.Proofs.YtngpbihnmgjniaaDoor
set_option linter.unusedVariables false
set_option linter.unusedSimpArgs false
open Go.RowKit Go.Proofs.YtngpbihnmgjniaaDoor.PQ Go.Proofs.YtngpbihnmgjniaaDoorW.PrintWords

/-- A row of options that is read. -/
def XRd (w : World) (v : Value) (L : List S53) : Prop := ∃ A c, v = .slice A L.length c ∧ L.length ≤ c ∧ Kd.C k53 w A L.length L
theorem XRd.keeps {w w' : World} {v : Value} {L : List S53} (h : XRd w v L) (hk : Keeps (fun _ => False) w w') : XRd w' v L := by
  obtain ⟨A, c, rfl, h1, h2⟩ := h
  exact ⟨A, c, rfl, h1, Kd.C_below h2 (hk.below _ (Nat.le_refl _) (fun _ _ h => h))⟩
theorem XRd.ofR {w : World} {v : Value} {L : List S53} {b : Nat} {ok : Nat → Prop} (h : Kd.R k53 53 w b ok v L) : XRd w v L := by
  obtain ⟨A, c, rfl⟩ := Kd.R_slice h
  exact ⟨A, c, rfl, (Kd.R_reads' h).2.1, (Kd.R_reads' h).2.2⟩
theorem opts_any (m : List UInt8) (w : World) (hm : m.length ≤ 100000) :
    Calls Tryd.prog 19 #[.string ⟨m.toArray⟩] w fun e w' => ∃ v, e = .returned (.tuple #[v, .int .i64 (optF m).2]) ∧ XRd w' v (optF m).1 ∧ Keeps (fun _ => False) w w' := by
  have h : ip4_Options.f (2 * m.length + 2) ⟨m.toArray⟩ = some ((optF m).1, (optF m).2) := by
    unfold ip4_Options.f
    rw [options_is m.length m [] _ (Nat.le_refl _) (by simpa using hm) (Nat.le_refl _)]
    unfold optF
    cases optS m.length m <;> simp [endO]
  refine (ip4_Options.calls _ _ _ _ w h).mono ?_
  rintro e w' ⟨v, rfl, hr, hb⟩
  exact ⟨v, rfl, XRd.ofR hr, Keeps.of_below hb _⟩
theorem optF_le (m : List UInt8) : (optF m).1.length ≤ m.length := by
  have : ∀ (n : Nat) (m : List UInt8) (L : List S53), m.length ≤ n → optS n m = some L → L.length ≤ m.length := by
    intro n
    induction n with
    | zero => intro m L _ h; simp [optS] at h; simp [h]
    | succ n ih =>
      intro m L hm h
      unfold optS at h
      split at h
      · simp at h; simp [h]
      · rename_i h0
        have hl : 0 < m.length := Nat.pos_of_ne_zero fun e => h0 (.inl e)
        split at h
        · cases hq : optS n (m.drop 1) with
          | none => rw [hq] at h; cases h
          | some L' =>
            rw [hq] at h
            simp at h
            have := ih _ _ (by rw [List.length_drop]; omega) hq
            rw [List.length_drop] at this
            rw [← h]; simp; omega
        · split at h
          · cases h
          · rename_i h2
            cases hq : optS n (m.drop (byF m 1)) with
            | none => rw [hq] at h; cases h
            | some L' =>
              rw [hq] at h
              simp at h
              have := ih _ _ (by rw [List.length_drop]; omega) hq
              rw [List.length_drop] at this
              rw [← h]; simp; omega
  unfold optF
  cases hq : optS m.length m with
  | none => simp
  | some L => exact this _ _ _ (Nat.le_refl _) hq
end Go.Proofs.YtngpbihnmgjniaaDoor

/-! What a packet is split into, plainly. -/
namespace Go.Proofs.YtngpbihnmgjniaaDoor
set_option linter.unusedVariables false
set_option linter.unusedSimpArgs false
open Go.RowKit Go.Proofs.YtngpbihnmgjniaaDoor.PQ Go.Proofs.YtngpbihnmgjniaaDoorW.PrintWords

/-- The options that all pieces have, and zeros up to a multiple of four. -/
def laterB (L : List S53) : List UInt8 := (L.filter fun o => decide (128 ≤ o.f0)).flatMap fun o => UInt8.ofNat o.f0.toNat :: UInt8.ofNat (o.f1.size + 2) :: o.f1.data.toList
def laterP (L : List S53) : List UInt8 := laterB L ++ List.replicate ((4 - (laterB L).length % 4) % 4) 0
theorem laterP_len (L : List S53) : (laterP L).length % 4 = 0 := by
  unfold laterP
  rw [List.length_append, List.length_replicate]
  omega

/-- The pieces of a packet (none: a place that is too high). -/
def piecesF : Nat → P4 → Nat → List UInt8 → Option (List P4)
  | 0, _, _, _ => none
  | f + 1, p, mtu, later =>
    if 65528 < p.off then none
    else if p.data.length ≤ mtu - 20 - p.opt.length then some [p]
    else (piecesF f { p with off := p.off + ((mtu - 20 - p.opt.length) / 8 * 8 : Nat), opt := later, data := p.data.drop ((mtu - 20 - p.opt.length) / 8 * 8) } mtu later).map
      ({ p with mf := true, data := p.data.take ((mtu - 20 - p.opt.length) / 8 * 8) } :: ·)

/-- Pieces together are the packet's bytes. -/
theorem piecesF_data (later : List UInt8) (mtu : Nat) : ∀ (f : Nat) (p : P4) (L : List P4), piecesF f p mtu later = some L → L.flatMap (·.data) = p.data := by
  intro f
  induction f with
  | zero => intro p L h; cases h
  | succ f ih =>
    intro p L h
    unfold piecesF at h
    split at h
    · cases h
    · split at h
      · cases h
        simp
      · rw [Option.map_eq_some_iff] at h
        obtain ⟨M, hM, rfl⟩ := h
        rw [List.flatMap_cons, ih _ _ hM]
        simp
/-- There is a piece at least. -/
theorem piecesF_some (later : List UInt8) (mtu : Nat) (f : Nat) (p : P4) (L : List P4) (h : piecesF f p mtu later = some L) : 1 ≤ L.length := by
  cases f with
  | zero => cases h
  | succ f =>
    unfold piecesF at h
    split at h
    · cases h
    · split at h
      · cases h
        simp
      · rw [Option.map_eq_some_iff] at h
        obtain ⟨M, -, rfl⟩ := h
        simp
/-- How many pieces so many bytes need. -/
def wantF : Nat → Nat → Nat → Nat
  | 0, _, _ => 1
  | f + 1, n, room => if n ≤ room then 1 else 1 + wantF f (n - room / 8 * 8) room
/-- Without options: so many pieces, all but the last one full. -/
theorem piecesF_many (mtu : Nat) : ∀ (f : Nat) (p : P4) (L : List P4), p.opt = [] → piecesF f p mtu [] = some L →
    L.length = wantF f p.data.length (mtu - 20) ∧ ∀ i, (h : i + 1 < L.length) → L[i].data.length = (mtu - 20) / 8 * 8 := by
  intro f
  induction f with
  | zero => intro p L _ h; cases h
  | succ f ih =>
    intro p L ho h
    unfold piecesF at h
    rw [ho, List.length_nil, Nat.sub_zero] at h
    unfold wantF
    split at h
    · cases h
    · split at h
      next hle =>
        cases h
        rw [if_pos hle]
        exact ⟨rfl, fun i h => by simp at h⟩
      next hle =>
        rw [Option.map_eq_some_iff] at h
        obtain ⟨M, hM, rfl⟩ := h
        obtain ⟨h1, h2⟩ := ih _ _ rfl hM
        rw [if_neg hle]
        simp only [List.length_drop] at h1
        refine ⟨by rw [List.length_cons, h1]; omega, fun i hi => ?_⟩
        cases i with
        | zero => simp only [List.getElem_cons_zero, List.length_take]; omega
        | succ i =>
          rw [List.getElem_cons_succ]
          exact h2 i (by simpa using hi)
/-- There are pieces as long as no place comes too high and a piece holds eight bytes. -/
theorem piecesF_there (mtu : Nat) (hm : 68 ≤ mtu) (later : List UInt8) (hl : later.length ≤ 40) : ∀ (f : Nat) (p : P4), p.data.length < f → p.opt.length ≤ 40 → p.off + p.data.length ≤ 65528 →
    ∃ L, piecesF f p mtu later = some L := by
  intro f
  induction f with
  | zero => intro p h; omega
  | succ f ih =>
    intro p h ho hoff
    unfold piecesF
    rw [if_neg (by omega)]
    split
    · exact ⟨_, rfl⟩
    next hle =>
      obtain ⟨n, hn⟩ : ∃ n, (mtu - 20 - p.opt.length) / 8 * 8 = n := ⟨_, rfl⟩
      rw [hn]
      obtain ⟨M, hM⟩ := ih { p with off := p.off + (n : Nat), opt := later, data := p.data.drop n } (by simp only [List.length_drop]; omega) hl (by simp only [List.length_drop]; omega)
      exact ⟨_, by rw [hM]; rfl⟩
/-- Each piece goes into mtu bytes, and is of the same packet. -/
theorem piecesF_fits (mtu : Nat) (hm : 68 ≤ mtu) (later : List UInt8) (hl : later.length ≤ 40) : ∀ (f : Nat) (p : P4) (L : List P4), p.opt.length ≤ 40 → piecesF f p mtu later = some L →
    ∀ q ∈ L, 20 + q.opt.length + q.data.length ≤ mtu ∧ q.id = p.id ∧ q.src = p.src ∧ q.dst = p.dst ∧ q.proto = p.proto ∧ q.ttl = p.ttl ∧ q.tos = p.tos ∧ q.df = p.df ∧ q.opt.length ≤ 40 ∧ q.off ≤ 65528 := by
  intro f
  induction f with
  | zero => intro p L _ h; cases h
  | succ f ih =>
    intro p L ho h q hq
    unfold piecesF at h
    split at h
    · cases h
    next hoff =>
      split at h
      next hle =>
        cases h
        obtain rfl := List.mem_singleton.1 hq
        exact ⟨by omega, rfl, rfl, rfl, rfl, rfl, rfl, rfl, ho, by omega⟩
      next hle =>
        rw [Option.map_eq_some_iff] at h
        obtain ⟨M, hM, rfl⟩ := h
        rcases List.mem_cons.1 hq with rfl | hq
        · exact ⟨by simp only [List.length_take]; omega, rfl, rfl, rfl, rfl, rfl, rfl, rfl, ho, by show p.off ≤ 65528; omega⟩
        · exact ih _ _ hl hM q hq
/-- By a greater number no more pieces come. -/
theorem piecesF_mono (m1 m2 : Nat) (hm : m2 ≤ m1) (later : List UInt8) : ∀ (f : Nat) (p1 p2 : P4) (L1 L2 : List P4), p1.opt.length = p2.opt.length → p1.data.length ≤ p2.data.length →
    piecesF f p1 m1 later = some L1 → piecesF f p2 m2 later = some L2 → L1.length ≤ L2.length := by
  intro f
  induction f with
  | zero => intro p1 p2 L1 L2 _ _ h; cases h
  | succ f ih =>
    intro p1 p2 L1 L2 ho hd h1 h2
    have hs := piecesF_some _ _ _ _ _ h2
    unfold piecesF at h1 h2
    split at h1
    · cases h1
    · split at h1
      · cases h1
        exact hs
      next hle1 =>
        split at h2
        · cases h2
        · rw [if_neg (by omega)] at h2
          rw [Option.map_eq_some_iff] at h1 h2
          obtain ⟨M1, hM1, rfl⟩ := h1
          obtain ⟨M2, hM2, rfl⟩ := h2
          have := ih _ _ M1 M2 (by rfl) (by simp only [List.length_drop]; omega) hM1 hM2
          simp only [List.length_cons]
          omega
theorem laterB_cons (o : S53) (L : List S53) : (laterB (o :: L)).length ≤ 2 + o.f1.size + (laterB L).length := by
  unfold laterB
  rw [List.filter_cons]
  have e : o.f1.data.toList.length = o.f1.size := by rw [Array.length_toList]; rfl
  split
  · rw [List.flatMap_cons, List.length_append, List.length_cons, List.length_cons, e]; omega
  · omega
theorem laterB_low (o : S53) (L : List S53) (h : o.f0 < 128) : laterB (o :: L) = laterB L := by
  unfold laterB
  rw [List.filter_cons, if_neg (by simpa using h)]
/-- What all pieces have is no longer than the options. -/
theorem laterB_len : ∀ (f : Nat) (s : List UInt8) (L : List S53), optS f s = some L → (laterB L).length ≤ s.length := by
  intro f
  induction f with
  | zero => intro s L h; cases h; exact Nat.zero_le _
  | succ f ih =>
    intro s L h
    unfold optS at h
    split at h
    · cases h; exact Nat.zero_le _
    · split at h
      · rw [Option.map_eq_some_iff] at h
        obtain ⟨M, hM, rfl⟩ := h
        rw [laterB_low _ _ (by decide)]
        exact Nat.le_trans (ih _ _ hM) (by rw [List.length_drop]; omega)
      · split at h
        · cases h
        next hc =>
          rw [Option.map_eq_some_iff] at h
          obtain ⟨M, hM, rfl⟩ := h
          have h1 := ih _ _ hM
          have h2 := laterB_cons ⟨(byF s 0 : Int), ⟨((s.drop 2).take (byF s 1 - 2)).toArray⟩⟩ M
          have h3 : (⟨((s.drop 2).take (byF s 1 - 2)).toArray⟩ : ByteArray).size ≤ byF s 1 - 2 := by
            show ((s.drop 2).take (byF s 1 - 2)).toArray.size ≤ _
            rw [List.size_toArray, List.length_take]; omega
          rw [List.length_drop] at h1
          simp only at h2
          omega
theorem laterP_le (s : List UInt8) (L : List S53) (h : optS s.length s = some L) (h4 : s.length % 4 = 0) : (laterP L).length ≤ s.length := by
  have := laterB_len _ _ _ h
  unfold laterP
  rw [List.length_append, List.length_replicate]
  omega
end Go.Proofs.YtngpbihnmgjniaaDoor
