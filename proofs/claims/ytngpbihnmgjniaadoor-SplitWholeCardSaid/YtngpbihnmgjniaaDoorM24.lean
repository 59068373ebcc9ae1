/- Words, walks and plain laws that the claim leans on, part 24. -/
import Derived.Test.YtngpbihnmgjniaaDoorM22

/-! What a split packet's pieces are, plainly. -/
namespace Go.Proofs.YtngpbihnmgjniaaDoor
set_option linter.unusedVariables false
set_option linter.unusedSimpArgs false
open Go.RowKit Go.Proofs.YtngpbihnmgjniaaDoor.PQ

structure PieceOk (p : P4) (later : List UInt8) (L : List P4) (i : Nat) (q : P4) : Prop where
  off : q.off = p.off + (((L.take i).flatMap (·.data)).length : Nat)
  mid : i + 1 < L.length → q.mf = true ∧ q.data.length % 8 = 0 ∧ 0 < q.data.length
  last : i + 1 = L.length → q.mf = p.mf
  o8 : q.off % 8 = 0
  dl : q.data.length ≤ p.data.length
  opt : q.opt = p.opt ∨ q.opt = later
  first : i = 0 → q.opt = p.opt

theorem piecesF_all (mtu : Nat) (hm : 68 ≤ mtu) (later : List UInt8) (hl : later.length ≤ 40) : ∀ (f : Nat) (p : P4) (L : List P4), p.opt.length ≤ 40 → p.off % 8 = 0 → piecesF f p mtu later = some L →
    ∀ i, (h : i < L.length) → PieceOk p later L i L[i] := by
  intro f
  induction f with
  | zero => intro p L _ _ h; cases h
  | succ f ih =>
    intro p L ho h8 h i hi
    unfold piecesF at h
    split at h
    · cases h
    · split at h
      next hle =>
        cases h
        obtain rfl : i = 0 := by simpa using hi
        exact ⟨by simp, fun h => by simp at h, fun _ => rfl, h8, Nat.le_refl _, .inl rfl, fun _ => rfl⟩
      next hle =>
        rw [Option.map_eq_some_iff] at h
        obtain ⟨M, hM, rfl⟩ := h
        obtain ⟨n, hn⟩ : ∃ n, (mtu - 20 - p.opt.length) / 8 * 8 = n := ⟨_, rfl⟩
        rw [hn] at hM ⊢
        have hs := piecesF_some _ _ _ _ _ hM
        have hnl : (p.data.take n).length = n := by rw [List.length_take]; omega
        cases i with
        | zero =>
          refine ⟨by simp, fun _ => ⟨rfl, ?_, ?_⟩, fun h => ?_, h8, ?_, .inl rfl, fun _ => rfl⟩
          · show (p.data.take n).length % 8 = 0
            rw [hnl]; omega
          · show 0 < (p.data.take n).length
            rw [hnl]; omega
          · simp only [List.length_cons] at h; omega
          · show (p.data.take n).length ≤ _
            rw [hnl]; omega
        | succ j =>
          have hj : j < M.length := by simpa using hi
          have hok := ih _ M (by exact hl) (by show (p.off + (n : Nat)) % 8 = 0; omega) hM j hj
          refine ⟨?_, fun h => hok.mid (by simpa using h), fun h => hok.last (by simpa using h), hok.o8, ?_, ?_, fun h => by cases h⟩
          · show M[j].off = _
            rw [hok.off, List.take_succ_cons, List.flatMap_cons, List.length_append]
            show p.off + (n : Nat) + _ = p.off + (((p.data.take n).length + _ : Nat) : Int)
            rw [hnl]
            omega
          · have := hok.dl
            show M[j].data.length ≤ _
            simp only [List.length_drop] at this
            omega
          · rcases hok.opt with h | h
            · exact .inr h
            · exact .inr h

theorem splitR_err (p : P4) (mtu : Int) (h : (splitR p mtu).1 ≠ 0) : (splitR p mtu).2 = [] := by
  by_cases hE : checkE p ≠ 0
  · have e : splitR p mtu = (checkE p, []) := by unfold splitR; rw [if_pos hE]
    rw [e]
  · by_cases h68 : mtu < 68
    · have e : splitR p mtu = (1, []) := by unfold splitR; rw [if_neg hE, if_pos h68]
      rw [e]
    · by_cases hfit : ((20 + p.opt.length + p.data.length : Nat) : Int) ≤ mtu
      · have e : splitR p mtu = (0, [p]) := by unfold splitR; rw [if_neg hE, if_neg h68, if_pos hfit]
        rw [e] at h
        exact absurd rfl h
      · by_cases hdf : p.df = true
        · have e : splitR p mtu = (181, []) := by unfold splitR; rw [if_neg hE, if_neg h68, if_neg hfit, if_pos hdf]
          rw [e]
        · by_cases ho : (optF p.opt).2 ≠ 0
          · have e : splitR p mtu = ((optF p.opt).2, []) := by unfold splitR; rw [if_neg hE, if_neg h68, if_neg hfit, if_neg hdf, if_pos ho]
            rw [e]
          · have e : splitR p mtu = outOf (piecesF (p.data.length + 1) p mtu.toNat (laterO p.opt)) := by unfold splitR; rw [if_neg hE, if_neg h68, if_neg hfit, if_neg hdf, if_neg ho]
            rw [e] at h ⊢
            cases hO : piecesF (p.data.length + 1) p mtu.toNat (laterO p.opt) with
            | none => rfl
            | some L => rw [hO] at h; exact absurd rfl h
theorem laterO_le (p : P4) (h : checkE p = 0) : (laterO p.opt).length ≤ p.opt.length ∧ (laterO p.opt).length % 4 = 0 := by
  obtain ⟨-, -, -, -, -, -, -, -, h40, -, -⟩ := check_facts p h
  unfold laterO
  split
  next L hL => exact ⟨laterP_le _ _ hL h40, laterP_len L⟩
  next => exact ⟨Nat.zero_le _, rfl⟩
theorem checkE_of (q : P4) (a1 : 0 ≤ q.tos ∧ q.tos ≤ 255) (a2 : 0 ≤ q.ttl ∧ q.ttl ≤ 255) (a3 : 0 ≤ q.proto ∧ q.proto ≤ 255) (a4 : 0 ≤ q.id ∧ q.id ≤ 65535) (a5 : 0 ≤ q.off ∧ q.off ≤ 65528) (a6 : q.off % 8 = 0)
    (a7 : q.src.length = 4) (a8 : q.dst.length = 4) (a9 : q.opt.length % 4 = 0) (b1 : q.opt.length ≤ 40) (b2 : 20 + q.opt.length + q.data.length ≤ 65535) : checkE q = 0 := by
  have h1 : numsOk q = true := by
    unfold numsOk inAll inAll inAll inAll inAll inAll
    simp [a1.1, a1.2, a2.1, a2.2, a3.1, a3.2, a4.1, a4.2, a5.1, a5.2]
  unfold checkE
  rw [h1, if_neg (by rw [Int.tmod_eq_emod_of_nonneg a5.1]; simp [a6]), if_neg (by simp [a7, a8]), if_neg (by omega), if_neg (by omega)]

/-- A packet that is split: its pieces. -/
structure Whole (p : P4) (mtu : Int) (L : List P4) : Prop where
  mtu68 : 68 ≤ mtu
  pos : 1 ≤ L.length
  data : L.flatMap (·.data) = p.data
  each : ∀ i, (h : i < L.length) → PieceOk p (laterO p.opt) L i L[i]
  fits : ∀ q ∈ L, checkE q = 0 ∧ ((20 + q.opt.length + q.data.length : Nat) : Int) ≤ mtu ∧ q.id = p.id ∧ q.src = p.src ∧ q.dst = p.dst ∧ q.proto = p.proto ∧ q.ttl = p.ttl ∧ q.tos = p.tos ∧ q.df = p.df

theorem splitR_whole (p : P4) (mtu : Int) (h : (splitR p mtu).1 = 0) : Whole p mtu (splitR p mtu).2 := by
  by_cases hE : checkE p = 0
  case neg => unfold splitR at h; rw [if_pos hE] at h; exact absurd h hE
  case pos =>
    obtain ⟨a1, a2, a3, a4, a5, h8, h4, h4', h40, h40', hall⟩ := check_facts p hE
    by_cases h68 : mtu < 68
    · have e : splitR p mtu = (1, []) := by unfold splitR; rw [if_neg (by simpa using hE), if_pos h68]
      rw [e] at h
      cases h
    · by_cases hfit : ((20 + p.opt.length + p.data.length : Nat) : Int) ≤ mtu
      · have e : splitR p mtu = (0, [p]) := by unfold splitR; rw [if_neg (by simpa using hE), if_neg h68, if_pos hfit]
        rw [e]
        refine ⟨by omega, by simp, by simp, fun i hi => ?_, fun q hq => ?_⟩
        · obtain rfl : i = 0 := by simpa using hi
          exact ⟨by simp, fun h => by simp at h, fun _ => rfl, h8, Nat.le_refl _, .inl rfl, fun _ => rfl⟩
        · obtain rfl := List.mem_singleton.1 hq
          exact ⟨hE, hfit, rfl, rfl, rfl, rfl, rfl, rfl, rfl⟩
      · by_cases hdf : p.df = true
        · have e : splitR p mtu = (181, []) := by unfold splitR; rw [if_neg (by simpa using hE), if_neg h68, if_neg hfit, if_pos hdf]
          rw [e] at h
          cases h
        · by_cases ho : (optF p.opt).2 = 0
          case neg =>
            have e : splitR p mtu = ((optF p.opt).2, []) := by unfold splitR; rw [if_neg (by simpa using hE), if_neg h68, if_neg hfit, if_neg hdf, if_pos ho]
            rw [e] at h
            exact absurd h ho
          case pos =>
            have e : splitR p mtu = outOf (piecesF (p.data.length + 1) p mtu.toNat (laterO p.opt)) := by unfold splitR; rw [if_neg (by simpa using hE), if_neg h68, if_neg hfit, if_neg hdf, if_neg (by simpa using ho)]
            rw [e] at h ⊢
            obtain ⟨hl1, hl2⟩ := laterO_le p hE
            cases hO : piecesF (p.data.length + 1) p mtu.toNat (laterO p.opt) with
            | none => rw [hO] at h; cases h
            | some L =>
              show Whole p mtu L
              have hF := piecesF_fits mtu.toNat (by omega) (laterO p.opt) (by omega) _ p L h40' hO
              have hA := piecesF_all mtu.toNat (by omega) (laterO p.opt) (by omega) _ p L h40' h8 hO
              refine ⟨by omega, piecesF_some _ _ _ _ _ hO, piecesF_data _ _ _ _ _ hO, hA, fun q hq => ?_⟩
              obtain ⟨f1, f2, f3, f4, f5, f6, f7, f8, f9, f10⟩ := hF q hq
              obtain ⟨i, hi, rfl⟩ := List.getElem_of_mem hq
              have ok := hA i hi
              have hoff := ok.off
              have hop : L[i].opt.length % 4 = 0 ∧ L[i].opt.length ≤ p.opt.length := by
                rcases ok.opt with e | e <;> rw [e]
                · exact ⟨h40, Nat.le_refl _⟩
                · exact ⟨hl2, hl1⟩
              have hdl := ok.dl
              refine ⟨checkE_of _ (by rw [f7]; exact a1) (by rw [f6]; exact a2) (by rw [f5]; exact a3) (by rw [f2]; exact a4) ⟨by rw [hoff]; omega, f10⟩ ok.o8 (by rw [f3]; exact h4) (by rw [f4]; exact h4') hop.1 f9 (by omega), by omega, f2, f3, f4, f5, f6, f7, f8⟩

/-- Pieces that are split by the same number are themselves. -/
theorem splitR_same (p q : P4) (mtu : Int) (h : (splitR p mtu).1 = 0) (hq : q ∈ (splitR p mtu).2) : splitR q mtu = (0, [q]) := by
  have w := splitR_whole p mtu h
  obtain ⟨h1, h2, -⟩ := w.fits q hq
  have := w.mtu68
  unfold splitR
  rw [if_neg (by simpa using h1), if_neg (by omega), if_pos h2]
/-- By a greater number: no more pieces. -/
theorem splitR_more (p : P4) (mtu more : Int) (hm : 0 ≤ more) (hd : p.data.length ≤ 3000) :
    ((splitR p mtu).1 ≠ 0 → ((splitR p (mtu + more)).1 = (splitR p mtu).1 ∨ (splitR p (mtu + more)).1 = 0 ∨ mtu < 68)) ∧
    ((splitR p mtu).1 = 0 → (((splitR p (mtu + more)).1 = 0 ∧ (splitR p (mtu + more)).2.length ≤ (splitR p mtu).2.length) ∨ ((splitR p (mtu + more)).1 = 2 ∧ 60000 < p.off))) := by
  by_cases hE : checkE p = 0
  case neg =>
    have e : ∀ m, splitR p m = (checkE p, []) := fun m => by unfold splitR; rw [if_pos hE]
    rw [e, e]
    exact ⟨fun _ => .inl rfl, fun h => absurd h hE⟩
  case pos =>
    by_cases h68 : mtu < 68
    · refine ⟨fun _ => .inr (.inr h68), fun h => ?_⟩
      have := (splitR_whole p mtu h).mtu68
      omega
    · obtain ⟨a1, a2, a3, a4, a5, h8, h4, h4', h40, h40', hall⟩ := check_facts p hE
      obtain ⟨hl1, hl2⟩ := laterO_le p hE
      have e : ∀ m : Int, ¬ m < 68 → splitR p m = (if ((20 + p.opt.length + p.data.length : Nat) : Int) ≤ m then (0, [p]) else if p.df then (181, [])
          else if (optF p.opt).2 ≠ 0 then ((optF p.opt).2, []) else outOf (piecesF (p.data.length + 1) p m.toNat (laterO p.opt))) := fun m hm => by
        conv => lhs; unfold splitR
        rw [if_neg (by simpa using hE), if_neg hm]
      rw [e mtu h68, e (mtu + more) (by omega)]
      by_cases f2 : ((20 + p.opt.length + p.data.length : Nat) : Int) ≤ mtu + more
      · rw [if_pos f2]
        refine ⟨fun _ => .inr (.inl rfl), fun h => .inl ⟨rfl, ?_⟩⟩
        split
        · exact Nat.le_refl _
        next f1 =>
          rw [if_neg f1] at h
          split
          next hdf => rw [if_pos hdf] at h; cases h
          next hdf =>
            rw [if_neg hdf] at h
            split
            next ho => rw [if_pos ho] at h; exact absurd h ho
            next ho =>
              rw [if_neg ho] at h
              cases hO : piecesF (p.data.length + 1) p mtu.toNat (laterO p.opt) with
              | none => rw [hO] at h; cases h
              | some L => exact piecesF_some _ _ _ _ _ hO
      · have f1 : ¬ ((20 + p.opt.length + p.data.length : Nat) : Int) ≤ mtu := by omega
        rw [if_neg f2, if_neg f1]
        by_cases hdf : p.df = true
        · rw [if_pos hdf, if_pos hdf]
          exact ⟨fun _ => .inl rfl, fun h => by cases h⟩
        · rw [if_neg hdf, if_neg hdf]
          by_cases ho : (optF p.opt).2 ≠ 0
          · rw [if_pos ho, if_pos ho]
            exact ⟨fun _ => .inl rfl, fun h => absurd h ho⟩
          · rw [if_neg ho, if_neg ho]
            cases hM : piecesF (p.data.length + 1) p (mtu + more).toNat (laterO p.opt) with
            | none =>
              have hoff : 60000 < p.off := by
                refine Decidable.byContradiction fun hno => ?_
                obtain ⟨L, hL⟩ := piecesF_there (mtu + more).toNat (by omega) (laterO p.opt) (by omega) (p.data.length + 1) p (by omega) h40' (by omega)
                rw [hM] at hL
                cases hL
              refine ⟨fun h => ?_, fun h => .inr ⟨rfl, hoff⟩⟩
              cases hL : piecesF (p.data.length + 1) p mtu.toNat (laterO p.opt) with
              | none => exact .inl rfl
              | some L => rw [hL] at h; exact absurd rfl h
            | some M =>
              refine ⟨fun h => .inr (.inl rfl), fun h => .inl ⟨rfl, ?_⟩⟩
              cases hL : piecesF (p.data.length + 1) p mtu.toNat (laterO p.opt) with
              | none => rw [hL] at h; cases h
              | some L => exact piecesF_mono (mtu + more).toNat mtu.toNat (by omega) (laterO p.opt) _ p p M L rfl (Nat.le_refl _) hM hL
theorem pieces_len : ∀ L : List P4, (∀ i, (h : i + 1 < L.length) → 0 < L[i].data.length) → L.length ≤ (L.flatMap (·.data)).length + 1
  | [], _ => Nat.zero_le _
  | [q], _ => by simp
  | q :: r :: M, h => by
    have h0 : 0 < q.data.length := h 0 (by simp)
    have h1 := pieces_len (r :: M) (fun i hi => h (i + 1) (by simpa using hi))
    rw [List.flatMap_cons, List.length_append]
    simp only [List.length_cons] at h1 ⊢
    omega
theorem Whole.len {p : P4} {mtu : Int} {L : List P4} (h : Whole p mtu L) : L.length ≤ p.data.length + 1 := by
  have := pieces_len L (fun i hi => ((h.each i (by omega)).mid hi).2.2)
  rwa [h.data] at this
theorem wf_range (x : Int) (h : (Lit.int .i64 x).wf = true) : -9223372036854775808 ≤ x ∧ x ≤ 9223372036854775807 := by
  have h' : (decide (IntKind.i64.min ≤ x) && decide (x ≤ IntKind.i64.max)) = true := h
  have e1 : IntKind.i64.min = -9223372036854775808 := by rfl
  have e2 : IntKind.i64.max = 9223372036854775807 := by rfl
  rw [e1, e2] at h'
  simpa only [Bool.and_eq_true, decide_eq_true_eq] using h'
theorem bytesP_length (q : P4) (h : checkE q = 0) : (bytesP q).length = 20 + q.opt.length + q.data.length := by
  obtain ⟨-, -, -, -, -, -, h4, h4', -, -, -⟩ := check_facts q h
  unfold bytesP bytesN hd10 fr10 b2
  simp only [List.length_append, List.length_cons, List.length_nil, h4, h4']
end Go.Proofs.YtngpbihnmgjniaaDoor

/-! The law SplitWhole. -/
namespace Go.Proofs.YtngpbihnmgjniaaDoor
set_option linter.unusedVariables false
set_option linter.unusedSimpArgs false
open Go.RowKit

set_option maxRecDepth 100000 in
set_option maxHeartbeats 8000000 in
theorem lwhole_any (p : P4) (dv : Value) (mtu : Int) (w : World) (hd : BRd w dv p.data) (hs : Sized4 p) (hm1 : -9223372036854775808 ≤ mtu) (hm2 : mtu ≤ 9223372036854775807) (hg : ErrT w) :
    Calls Tryd.prog 5 #[.agg (p4cells p dv), .int .i64 mtu] w fun e w' => e = .returned (.bool true) ∧ Keeps (fun _ => False) w w' := by
  obtain ⟨da, dc, rfl, hdc, hdm⟩ := hd.slice
  simp only [maxLen] at hdm
  have hk0 := (Keeps.refl (fun _ => False) w).alloc (.cells (p4cells p (.slice da p.data.length dc)) 24)
  have hr0 := RowAt.new w (p4cells p (.slice da p.data.length dc)) 24
  obtain ⟨c0, c1, c2, c3, c4, c5, c6, c7, c8, c9, c10⟩ := hr0.p4
  have hfew := few_any p (.slice da p.data.length dc) _ (hd.keeps hk0) hs
  by_cases hF : fewS p = true
  · rw [hF] at hfew
    have HFEW := Lib.hid hfew
    obtain ⟨F1, F2⟩ := fewS_facts p hF
    clear hfew hF
    generalize hw1 : w.alloc (.cells (p4cells p (.slice da p.data.length dc)) 24) = w1 at hk0 hr0 c0 c1 c2 c3 c4 c5 c6 c7 c8 c9 c10 HFEW
    obtain ⟨q, hq⟩ : ∃ b, w.heap.size = b := ⟨_, rfl⟩
    rw [hq] at hr0 c0 c1 c2 c3 c4 c5 c6 c7 c8 c9 c10
    go_enter Tryd.func5, Tryd.ntmps5
    go_wp2_with fail
    refine HFEW.out.mono ?_
    rintro e w2 ⟨rfl, hk2⟩
    have hkA := hk0.trans hk2 (fun _ _ h => h)
    have hr2 := hr0.keeps hk2 (fun h => h)
    clear c0 c1 c2 c3 c4 c5 c6 c7 c8 c9 c10
    obtain ⟨c0, c1, c2, c3, c4, c5, c6, c7, c8, c9, c10⟩ := hr2.p4
    clear hk0 hr0 hk2 HFEW
    have hsp := split_any p (.slice da p.data.length dc) mtu w2 (hg.keeps hkA) (hd.keeps hkA) (by omega) (by omega) hm1 hm2
    unfold Splits at hsp
    obtain ⟨E, hE⟩ : ∃ E, (splitR p mtu).1 = E := ⟨_, rfl⟩
    obtain ⟨L, hL⟩ : ∃ L, (splitR p mtu).2 = L := ⟨_, rfl⟩
    by_cases hE0 : E = 0
    · subst hE0
      have hwh := splitR_whole p mtu hE
      rw [hE, hL] at hsp
      rw [hL] at hwh
      have HSP := Lib.hid hsp
      have HWH := Lib.hid hwh
      have hL1 : (1 : Int) ≤ (L.length : Int) := by have := hwh.pos; omega
      have hLd : L.length ≤ 100000 := by have := hwh.len; omega
      clear hsp hwh hE hL
      go_wp2_with fail
      refine HSP.out.mono ?_
      rintro e w3 ⟨v3, rfl, hp3, hk3⟩
      have hkB := hkA.trans hk3 (fun _ _ h => h)
      have hr3 := hr2.keeps hk3 (fun h => h)
      clear c0 c1 c2 c3 c4 c5 c6 c7 c8 c9 c10 HSP hk3 hr2 hkA
      obtain ⟨va, vc, rfl, -, -⟩ := hp3.slice
      go_wp2
      have hqz : q < w3.heap.size := hr3.lt
      go_loopw [7, 8] (fun u7 u8 wr => ∃ i : Nat, i ≤ L.length ∧ u8 = .int .i64 i ∧ BOwn wr w3.heap.size u7 ((L.take i).flatMap (·.data)) ∧ Keeps (fun _ => False) w3 wr) (fun _ u8 _ => L.length - (intOf u8).toNat)
      case atStart => exact ⟨0, by omega, rfl, BOwn.nil _ _, Keeps.refl _ _⟩
      case round =>
        obtain ⟨i, hi, rfl, ho, hkw⟩ := hrel
        have hkC := hkB.trans hkw (fun _ _ h => h)
        have hrw := hr3.keeps hkw (fun h => h)
        by_cases hlt : i < L.length
        · have hlt' : (i : Int) < (L.length : Int) := by omega
          have hi0 : (0 : Int) ≤ (i : Int) := by omega
          have hpw := hp3.keeps hkw
          obtain ⟨b, off, -, rfl, -, -⟩ := hpw.at i hlt
          obtain ⟨dvi, hdi, c0, c1, c2, c3, c4, c5, c6, c7, c8, c9, c10⟩ := hpw.cells i hlt
          have hwh := HWH.out
          have hok := hwh.each i hlt
          have hq := hwh.fits _ (List.getElem_mem hlt)
          have hsub : (L.take (i + 1)).flatMap (·.data) = (L.take i).flatMap (·.data) ++ L[i].data := by rw [List.take_succ_eq_append_getElem hlt, List.flatMap_append]; simp
          obtain ⟨Q, hQ⟩ : ∃ Q, L[i] = Q := ⟨_, rfl⟩
          rw [hQ] at hdi c0 c1 c2 c3 c4 c5 c6 c7 c8 c9 hok hq hsub
          obtain ⟨hQ0, hQ1, hid, hsrc, hdst, hpro, httl, htos, hdf⟩ := hq
          obtain ⟨-, -, -, -, ⟨of1, of2⟩, -, -, -, -, hQ40, hQall⟩ := check_facts Q hQ0
          obtain ⟨ai, zi, rfl, -, -⟩ := hdi.slice
          have hQd := hok.dl
          have hoff := hok.off
          have hmid := hok.mid
          have hlast := hok.last
          obtain ⟨tos, id, ttl, proto, df, mf, of, src, dst, opt, data⟩ := Q
          simp only at of1 of2 hdi c0 c1 c2 c3 c4 c5 c6 c7 c8 c9 c10 hQ1 hid hsrc hdst hpro httl htos hdf hQ40 hQall hQd hoff hmid hlast hsub
          subst hid hsrc hdst hpro httl htos hdf
          obtain ⟨A, hA⟩ : ∃ A, (L.take i).flatMap (·.data) = A := ⟨_, rfl⟩
          rw [hA] at hoff hsub ho
          have hAl : A.length ≤ 3000 := by
            have h1 : (L.take (i + 1)).flatMap (·.data) ++ (L.drop (i + 1)).flatMap (·.data) = L.flatMap (·.data) := by rw [← List.flatMap_append, List.take_append_drop]
            have h2 := congrArg List.length h1
            rw [hwh.data, hsub] at h2
            simp only [List.length_append] at h2
            omega
          have HOF := Lib.hid hoff
          have HMI := Lib.hid hmid
          have HLA := Lib.hid hlast
          have HSU := Lib.hid hsub
          have HQ0 := Lib.hid hQ0
          have HQ1 := Lib.hid hQ1
          clear hok hwh hoff hmid hlast hsub hA hQ hQ0 hQ1
          obtain ⟨g, hg2⟩ : ∃ g, wr.heap.size = g := ⟨_, rfl⟩
          have hqg : q ≠ g := by have := hrw.lt; omega
          go_wp2_with (refine wpList_store_whole rfl 24 (.tmp 9) (.tmp 39) rfl g (p4cells ⟨p.tos, p.id, p.ttl, p.proto, p.df, mf, of, p.src, p.dst, opt, data⟩ (.slice ai data.length zi)) rfl rfl 24 _ 11 (hg2 ▸ RowAt.new wr p4zc _) rfl rfl (by kernel_rfl) (p4_one _ _ rfl) (fun w4 hr4 hk4 => ?_); obtain ⟨d0, d1, d2, d3, d4, d5, d6, d7, d8, d9, d10⟩ := hr4.p4; simp only at d0 d1 d2 d3 d4 d5 d6 d7 d8 d9 d10)
          have hkw4 : Keeps (fun _ => False) wr w4 := (((Keeps.refl (fun _ => False) wr).alloc (.cells p4zc 24)).from hk4 (fun b e => by omega))
          have hkD := hkC.trans hkw4 (fun _ _ h => h)
          refine (bytes_any ⟨p.tos, p.id, p.ttl, p.proto, p.df, mf, of, p.src, p.dst, opt, data⟩ (.slice ai data.length zi) w4 (hg.keeps hkD) (hdi.keeps hkw4) (by show opt.length ≤ _; omega) (by show data.length ≤ _; omega)).mono ?_
          rintro e w5 ⟨hk5, ⟨-, v5, rfl, ho5⟩ | ⟨hne, -⟩⟩
          case inr => exact absurd HQ0.out hne
          have hBl := bytesP_length _ HQ0.out
          obtain ⟨B, hB⟩ : ∃ B, bytesP ⟨p.tos, p.id, p.ttl, p.proto, p.df, mf, of, p.src, p.dst, opt, data⟩ = B := ⟨_, rfl⟩
          rw [hB] at ho5 hBl
          simp only at hBl
          have hQ1 := HQ1.out
          have hBi : (B.length : Int) ≤ mtu := by omega
          have hBn : ¬ mtu < (B.length : Int) := by omega
          obtain ⟨a5, z5, rfl, -, -⟩ := BOwn.slice ho5
          obtain ⟨a7, z7, rfl, -, -⟩ := BOwn.slice ho
          have hkw5 := hkw4.trans hk5 (fun _ _ h => h)
          have hr5 := hr4.keeps hk5 (fun h => h)
          have hrq5 := hrw.keeps hkw5 (fun h => h)
          have hd5 := hdi.keeps hkw5
          have ho7 := ho.keeps hkw5 (fun _ _ h => h)
          have hoff := HOF.out
          have hs5 := (hkw.trans hkw5 (fun _ _ h => h)).size
          obtain ⟨v6, w6, hrun, ho6, hk6, -⟩ := run_append_bytes (ty := 22) ho7 hd5 (by omega) hs5
          have HRUN := Lib.hid hrun
          have q7 : IntKind.i64.wrap (p.off + (A.length : Int)) = of := by rw [i64_fit _ (by omega) (by omega)]; omega
          obtain ⟨n1, hn1⟩ : ∃ n1, L.length - 1 = n1 := ⟨_, rfl⟩
          have q8 : IntKind.i64.wrap ((L.length : Int) - 1) = (n1 : Int) := by rw [i64_fit _ (by omega) (by omega)]; omega
          clear hrun hoff hQ1 hBl hB ho5 c0 c1 c2 c3 c4 c5 c6 c7 c8 c9 c10 d0 d1 d2 d3 d4 d5 d6 d7 d8 d9 d10 hr4 hk4 hrw hdi hpw ho7 hg2
          obtain ⟨d0, d1, d2, d3, d4, d5, d6, d7, d8, d9, d10⟩ := hr5.p4
          obtain ⟨c0, c1, c2, c3, c4, c5, c6, c7, c8, c9, c10⟩ := hrq5.p4
          simp only at d0 d1 d2 d3 d4 d5 d6 d7 d8 d9 d10
          by_cases hend : i + 1 < L.length
          · obtain ⟨rfl, hm8, hm0⟩ := HMI.out hend
            have hbe : ((i : Int) == (n1 : Int)) = false := beq_eq_false_iff_ne.2 (by omega)
            have q9 : (data.length : Int).tmod 8 = 0 := by rw [Int.tmod_eq_emod_of_nonneg (by omega)]; omega
            have hb0 : ((data.length : Int) == 0) = false := beq_eq_false_iff_ne.2 (by omega)
            have hb9 : (data.length == 0) = false := beq_eq_false_iff_ne.2 (by omega)
            have hb8 : ¬ data = [] := fun h => by rw [h] at hm0; exact absurd hm0 (by simp)
            clear hm8 hm0 hn1
            go_wp2_with (at_builtin; refine Lib.wpList_append_run _ rfl _ _ _ _ rfl _ _ rfl rfl _ _ HRUN.out ?_)
            go_roundw
            case rel => exact ⟨i + 1, by omega, by go_num, by rw [HSU.out]; exact ho6, (hkw.trans hkw5 (fun _ _ h => h)).from hk6 (fun b hb => (ho.block b hb).1)⟩
            case measure => simp [intOf]; omega
          · have hmf := HLA.out (by omega)
            subst hmf
            have hbe : ((i : Int) == (n1 : Int)) = true := beq_iff_eq.2 (by omega)
            clear hn1
            go_wp2_with (at_builtin; refine Lib.wpList_append_run _ rfl _ _ _ _ rfl _ _ rfl rfl _ _ HRUN.out ?_)
            go_roundw
            case rel => exact ⟨i + 1, by omega, by go_num, by rw [HSU.out]; exact ho6, (hkw.trans hkw5 (fun _ _ h => h)).from hk6 (fun b hb => (ho.block b hb).1)⟩
            case measure => simp [intOf]; omega
        · have hlt' : (L.length : Int) ≤ (i : Int) := by omega
          have hwh := HWH.out
          rw [List.take_of_length_le (by omega), hwh.data] at ho
          have hl0 := hwh.pos
          have hpw := hp3.keeps hkw
          obtain ⟨b, off, -, rfl, -, -⟩ := hpw.at 0 (by omega)
          obtain ⟨dvi, hdi, -, -, -, -, -, -, -, -, -, c9, -⟩ := hpw.cells 0 (by omega)
          rw [(hwh.each 0 (by omega)).first rfl, Nat.zero_mul, Nat.add_zero] at c9
          obtain ⟨a7, z7, rfl, -, -⟩ := BOwn.slice ho
          obtain ⟨d0, d1, d2, d3, d4, d5, d6, d7, d8, d9, d10⟩ := hrw.p4
          have hdq := hd.keeps hkC
          have hC0 : ∀ x, Keeps (fun _ => False) wr x → (convert 22 9 (.slice a7 p.data.length z7)).run Tryd.prog x = .ok (.string ⟨p.data.toArray⟩) x ∧ (convert 22 9 (.slice da p.data.length dc)).run Tryd.prog x = .ok (.string ⟨p.data.toArray⟩) x ∧
              x.cell? ⟨q, 10, none⟩ = some (.slice da p.data.length dc) ∧ x.cell? ⟨q, 9, none⟩ = some (.string ⟨p.opt.toArray⟩) ∧ x.cell? ⟨b, off + 9, none⟩ = some (.string ⟨p.opt.toArray⟩) := fun x hx =>
            ⟨(ho.keeps hx (fun _ _ h => h)).bat.text, (hdq.keeps hx).text, hx.cell d10 (fun h => h), hx.cell d9 (fun h => h), hx.cell c9 (fun h => h)⟩
          have HC := Lib.hid hC0
          have hl9 : 0 < L.length := hl0
          clear hC0 d0 d1 d2 d3 d4 d5 d6 d7 d8 d9 d10 c9 hdi hpw hwh hl0
          go_wp2
          refine region_T [] (fun x => (convert 22 9 (.slice a7 p.data.length z7)).run Tryd.prog x = .ok (.string ⟨p.data.toArray⟩) x ∧ (convert 22 9 (.slice da p.data.length dc)).run Tryd.prog x = .ok (.string ⟨p.data.toArray⟩) x ∧
              x.cell? ⟨q, 10, none⟩ = some (.slice da p.data.length dc) ∧ x.cell? ⟨q, 9, none⟩ = some (.string ⟨p.opt.toArray⟩) ∧ x.cell? ⟨b, off + 9, none⟩ = some (.string ⟨p.opt.toArray⟩)) (by kernel_rfl) ?_
          refine anyT_force (i := 0) rfl (by kernel_rfl) (by rfl) ?_
          go_simp
          refine (awake_any _ (hg.keeps hkC.drew)).mono ?_
          rintro e w9 ⟨rfl, hk9⟩
          have hkz : Keeps (fun _ => False) wr w9 := (Keeps.refl (fun _ => False) wr).drew.trans hk9 (fun _ _ h => h)
          have hC := HC.out _ hkz
          refine ⟨fun _ => hC, ?_⟩
          refine anyT_take0 (i := 1) (v := ?_) rfl (by kernel_rfl) (by kernel_rfl) (by kernel_rfl) (by kernel_rfl) (by kernel_rfl) (fun _ _ _ h => h) hC (.inl ⟨by rfl, fun _ _ => ?_⟩) ?_
          rotate_left 1
          · go_simp
            try with_reducible rfl
          simp only [Act.put, List.getElem_toArray, List.getElem_cons_succ, List.getElem_cons_zero, List.setIfInBounds_toArray, List.set_cons_zero, List.set_cons_succ]
          refine anyT_take0 (i := 2) (v := ?_) rfl (by kernel_rfl) (by kernel_rfl) (by kernel_rfl) (by kernel_rfl) (by kernel_rfl) (fun _ _ _ h => h) hC (.inl ⟨by rfl, fun _ _ => ?_⟩) ?_
          rotate_left 1
          · go_simp
            try with_reducible rfl
          simp only [Act.put, List.getElem_toArray, List.getElem_cons_succ, List.getElem_cons_zero, List.setIfInBounds_toArray, List.set_cons_zero, List.set_cons_succ]
          refine anyT_take0 (i := 3) (v := ?_) rfl (by kernel_rfl) (by kernel_rfl) (by kernel_rfl) (by kernel_rfl) (by kernel_rfl) (fun _ _ _ h => h) hC (.inl ⟨by rfl, fun _ _ => ?_⟩) ?_
          rotate_left 1
          · go_simp
            try with_reducible rfl
          simp only [Act.put, List.getElem_toArray, List.getElem_cons_succ, List.getElem_cons_zero, List.setIfInBounds_toArray, List.set_cons_zero, List.set_cons_succ]
          refine anyT_take0 (i := 4) (v := ?_) rfl (by kernel_rfl) (by kernel_rfl) (by kernel_rfl) (by kernel_rfl) (by kernel_rfl) (fun _ _ _ h => h) hC (.inl ⟨by rfl, fun _ _ => ?_⟩) ?_
          rotate_left 1
          · go_simp
            try with_reducible rfl
          simp only [Act.put, List.getElem_toArray, List.getElem_cons_succ, List.getElem_cons_zero, List.setIfInBounds_toArray, List.set_cons_zero, List.set_cons_succ]
          refine anyT_take0 (i := 5) (v := ?_) rfl (by kernel_rfl) (by kernel_rfl) (by kernel_rfl) (by kernel_rfl) (by kernel_rfl) (fun _ _ _ h => h) hC (.inl ⟨by rfl, fun _ _ => ?_⟩) ?_
          rotate_left 1
          · go_simp
            try with_reducible rfl
          simp only [Act.put, List.getElem_toArray, List.getElem_cons_succ, List.getElem_cons_zero, List.setIfInBounds_toArray, List.set_cons_zero, List.set_cons_succ]
          refine anyT_take0 (i := 6) (v := ?_) rfl (by kernel_rfl) (by kernel_rfl) (by kernel_rfl) (by kernel_rfl) (by kernel_rfl) (fun _ _ _ h => h) hC (.inl ⟨by rfl, fun _ _ => ?_⟩) ?_
          rotate_left 1
          · go_simp
            try with_reducible rfl
          simp only [Act.put, List.getElem_toArray, List.getElem_cons_succ, List.getElem_cons_zero, List.setIfInBounds_toArray, List.set_cons_zero, List.set_cons_succ]
          refine anyT_take0 (i := 7) (v := ?_) rfl (by kernel_rfl) (by kernel_rfl) (by kernel_rfl) (by kernel_rfl) (by kernel_rfl) (fun _ _ _ h => h) hC (.inl ⟨by rfl, fun _ _ => ?_⟩) ?_
          rotate_left 1
          · go_simp
            try with_reducible rfl
          simp only [Act.put, List.getElem_toArray, List.getElem_cons_succ, List.getElem_cons_zero, List.setIfInBounds_toArray, List.set_cons_zero, List.set_cons_succ]
          refine anyT_takeC (i := 8) (v := ?_) rfl (by kernel_rfl) (by kernel_rfl) (by kernel_rfl) (by kernel_rfl) (by kernel_rfl) (by kernel_rfl) (fun _ _ _ h => h) hC (.inl ⟨by rfl, fun w hCw => ?_⟩) ?_
          rotate_left 1
          · dsimp only at hCw
            go_simp
            try with_reducible rfl
          simp only [Act.put, List.getElem_toArray, List.getElem_cons_succ, List.getElem_cons_zero, List.setIfInBounds_toArray, List.set_cons_zero, List.set_cons_succ]
          refine anyT_take0 (i := 9) (v := ?_) rfl (by kernel_rfl) (by kernel_rfl) (by kernel_rfl) (by kernel_rfl) (by kernel_rfl) (fun _ _ _ h => h) hC (.inl ⟨by rfl, fun _ _ => ?_⟩) ?_
          rotate_left 1
          · go_simp
            try with_reducible rfl
          simp only [Act.put, List.getElem_toArray, List.getElem_cons_succ, List.getElem_cons_zero, List.setIfInBounds_toArray, List.set_cons_zero, List.set_cons_succ]
          refine anyT_takeC (i := 10) (v := ?_) rfl (by kernel_rfl) (by kernel_rfl) (by kernel_rfl) (by kernel_rfl) (by kernel_rfl) (by kernel_rfl) (fun _ _ _ h => h) hC (.inl ⟨by rfl, fun w hCw => ?_⟩) ?_
          rotate_left 1
          · dsimp only at hCw
            go_simp
            try with_reducible rfl
          simp only [Act.put, List.getElem_toArray, List.getElem_cons_succ, List.getElem_cons_zero, List.setIfInBounds_toArray, List.set_cons_zero, List.set_cons_succ]
          refine anyT_takeC (i := 11) (v := ?_) rfl (by kernel_rfl) (by kernel_rfl) (by kernel_rfl) (by kernel_rfl) (by kernel_rfl) (by kernel_rfl) (fun _ _ _ h => h) hC (.inl ⟨by rfl, fun w hCw => ?_⟩) ?_
          rotate_left 1
          · dsimp only at hCw
            go_simp
            try with_reducible rfl
          simp only [Act.put, List.getElem_toArray, List.getElem_cons_succ, List.getElem_cons_zero, List.setIfInBounds_toArray, List.set_cons_zero, List.set_cons_succ]
          refine anyT_take0 (i := 12) (v := ?_) rfl (by kernel_rfl) (by kernel_rfl) (by kernel_rfl) (by kernel_rfl) (by kernel_rfl) (fun _ _ _ h => h) hC (.inl ⟨by rfl, fun _ _ => ?_⟩) ?_
          rotate_left 1
          · go_simp
            try with_reducible rfl
          simp only [Act.put, List.getElem_toArray, List.getElem_cons_succ, List.getElem_cons_zero, List.setIfInBounds_toArray, List.set_cons_zero, List.set_cons_succ]
          refine anyT_take0 (i := 13) (v := ?_) rfl (by kernel_rfl) (by kernel_rfl) (by kernel_rfl) (by kernel_rfl) (by kernel_rfl) (fun _ _ _ h => h) hC (.inl ⟨by rfl, fun _ _ => ?_⟩) ?_
          rotate_left 1
          · go_simp
            try with_reducible rfl
          simp only [Act.put, List.getElem_toArray, List.getElem_cons_succ, List.getElem_cons_zero, List.setIfInBounds_toArray, List.set_cons_zero, List.set_cons_succ]
          refine anyT_take0 (i := 14) (v := ?_) rfl (by kernel_rfl) (by kernel_rfl) (by kernel_rfl) (by kernel_rfl) (by kernel_rfl) (fun _ _ _ h => h) hC (.inl ⟨by rfl, fun _ _ => ?_⟩) ?_
          rotate_left 1
          · go_simp
            try with_reducible rfl
          simp only [Act.put, List.getElem_toArray, List.getElem_cons_succ, List.getElem_cons_zero, List.setIfInBounds_toArray, List.set_cons_zero, List.set_cons_succ]
          refine anyT_take0 (i := 15) (v := ?_) rfl (by kernel_rfl) (by kernel_rfl) (by kernel_rfl) (by kernel_rfl) (by kernel_rfl) (fun _ _ _ h => h) hC (.inl ⟨by rfl, fun _ _ => ?_⟩) ?_
          rotate_left 1
          · go_simp
            try with_reducible rfl
          simp only [Act.put, List.getElem_toArray, List.getElem_cons_succ, List.getElem_cons_zero, List.setIfInBounds_toArray, List.set_cons_zero, List.set_cons_succ]
          refine anyT_take0 (i := 16) (v := ?_) rfl (by kernel_rfl) (by kernel_rfl) (by kernel_rfl) (by kernel_rfl) (by kernel_rfl) (fun _ _ _ h => h) hC (.inl ⟨by rfl, fun _ _ => ?_⟩) ?_
          rotate_left 1
          · go_simp
            try with_reducible rfl
          simp only [Act.put, List.getElem_toArray, List.getElem_cons_succ, List.getElem_cons_zero, List.setIfInBounds_toArray, List.set_cons_zero, List.set_cons_succ]
          refine anyT_take0 (i := 17) (v := ?_) rfl (by kernel_rfl) (by kernel_rfl) (by kernel_rfl) (by kernel_rfl) (by kernel_rfl) (fun _ _ _ h => h) hC (.inl ⟨by rfl, fun _ _ => ?_⟩) ?_
          rotate_left 1
          · go_simp
            try with_reducible rfl
          simp only [Act.put, List.getElem_toArray, List.getElem_cons_succ, List.getElem_cons_zero, List.setIfInBounds_toArray, List.set_cons_zero, List.set_cons_succ]
          refine anyT_takeC (i := 18) (v := ?_) rfl (by kernel_rfl) (by kernel_rfl) (by kernel_rfl) (by kernel_rfl) (by kernel_rfl) (by kernel_rfl) (fun _ _ _ h => h) hC (.inl ⟨by rfl, fun w hCw => ?_⟩) ?_
          rotate_left 1
          · dsimp only at hCw
            go_simp
            try with_reducible rfl
          simp only [Act.put, List.getElem_toArray, List.getElem_cons_succ, List.getElem_cons_zero, List.setIfInBounds_toArray, List.set_cons_zero, List.set_cons_succ]
          refine anyT_take0 (i := 19) (v := ?_) rfl (by kernel_rfl) (by kernel_rfl) (by kernel_rfl) (by kernel_rfl) (by kernel_rfl) (fun _ _ _ h => h) hC (.inl ⟨by rfl, fun _ _ => ?_⟩) ?_
          rotate_left 1
          · go_simp
            try with_reducible rfl
          simp only [Act.put, List.getElem_toArray, List.getElem_cons_succ, List.getElem_cons_zero, List.setIfInBounds_toArray, List.set_cons_zero, List.set_cons_succ]
          refine anyT_takeC (i := 20) (v := ?_) rfl (by kernel_rfl) (by kernel_rfl) (by kernel_rfl) (by kernel_rfl) (by kernel_rfl) (by kernel_rfl) (fun _ _ _ h => h) hC (.inl ⟨by rfl, fun w hCw => ?_⟩) ?_
          rotate_left 1
          · dsimp only at hCw
            go_simp
            try with_reducible rfl
          simp only [Act.put, List.getElem_toArray, List.getElem_cons_succ, List.getElem_cons_zero, List.setIfInBounds_toArray, List.set_cons_zero, List.set_cons_succ]
          refine anyT_take0 (i := 21) (v := ?_) rfl (by kernel_rfl) (by kernel_rfl) (by kernel_rfl) (by kernel_rfl) (by kernel_rfl) (fun _ _ _ h => h) hC (.inl ⟨by rfl, fun _ _ => ?_⟩) ?_
          rotate_left 1
          · go_simp
            try with_reducible rfl
          simp only [Act.put, List.getElem_toArray, List.getElem_cons_succ, List.getElem_cons_zero, List.setIfInBounds_toArray, List.set_cons_zero, List.set_cons_succ]
          refine anyT_take0 (i := 22) (v := ?_) rfl (by kernel_rfl) (by kernel_rfl) (by kernel_rfl) (by kernel_rfl) (by kernel_rfl) (fun _ _ _ h => h) hC (.inl ⟨by rfl, fun _ _ => ?_⟩) ?_
          rotate_left 1
          · go_simp
            try with_reducible rfl
          simp only [Act.put, List.getElem_toArray, List.getElem_cons_succ, List.getElem_cons_zero, List.setIfInBounds_toArray, List.set_cons_zero, List.set_cons_succ]
          refine anyT_take0 (i := 23) (v := ?_) rfl (by kernel_rfl) (by kernel_rfl) (by kernel_rfl) (by kernel_rfl) (by kernel_rfl) (fun _ _ _ h => h) hC (.inl ⟨by rfl, fun _ _ => ?_⟩) ?_
          rotate_left 1
          · go_simp
            try with_reducible rfl
          simp only [Act.put, List.getElem_toArray, List.getElem_cons_succ, List.getElem_cons_zero, List.setIfInBounds_toArray, List.set_cons_zero, List.set_cons_succ]
          refine (show anyT _ _ _ _ _ _ 0 _ _ _ from ⟨by kernel_rfl, ?_⟩)
          go_wp2
          go_ret
          exact ⟨rfl, (hkC.trans hkz (fun _ _ h => h))⟩
    · have hLe : L = [] := by rw [← hL]; exact splitR_err p mtu (by rw [hE]; exact hE0)
      rw [hE, hL, hLe] at hsp
      have HSP := Lib.hid hsp
      clear hsp hE hL hLe
      go_wp2_with fail
      refine HSP.out.mono ?_
      rintro e w3 ⟨v3, rfl, hp3, hk3⟩
      have hkB := hkA.trans hk3 (fun _ _ h => h)
      obtain ⟨va, vc, rfl, -, -⟩ := hp3.slice
      go_wp2_with (refine (awake_any _ (hg.keeps hkB)).mono ?_; rintro e w8 ⟨rfl, hk8⟩)
      go_ret
      exact ⟨rfl, hkB.trans hk8 (fun _ _ h => h)⟩
  · have hF' : fewS p = false := by simpa using hF
    rw [hF'] at hfew
    have HFEW := Lib.hid hfew
    clear hfew hF hF'
    generalize hw1 : w.alloc (.cells (p4cells p (.slice da p.data.length dc)) 24) = w1 at hk0 hr0 c0 c1 c2 c3 c4 c5 c6 c7 c8 c9 c10 HFEW
    obtain ⟨q, hq⟩ : ∃ b, w.heap.size = b := ⟨_, rfl⟩
    rw [hq] at hr0 c0 c1 c2 c3 c4 c5 c6 c7 c8 c9 c10
    go_enter Tryd.func5, Tryd.ntmps5
    go_wp2_with fail
    refine HFEW.out.mono ?_
    rintro e w2 ⟨rfl, hk2⟩
    go_wp2
    go_ret
    exact ⟨rfl, hk0.trans hk2 (fun _ _ h => h)⟩

theorem lwhole_row (p : P4) (dv : Value) (mtu : Int) (w : World) (hd : BAt w (· < w.heap.size) dv p.data) (hs : Sized4 p) (hm : (Lit.int .i64 mtu).wf = true) (hg : ErrT w) :
    Calls Tryd.prog 5 #[.agg (p4cells p dv), .int .i64 mtu] w fun e w' => e = .returned (.bool true) ∧ Keeps (fun _ => False) w w' :=
  lwhole_any p dv mtu w hd hs (wf_range mtu hm).1 (wf_range mtu hm).2 hg
end Go.Proofs.YtngpbihnmgjniaaDoor
