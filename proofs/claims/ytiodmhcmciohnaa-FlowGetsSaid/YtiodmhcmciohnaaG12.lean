/- Words, walks and plain laws that the claim leans on, part 12. -/
import Derived.Test.YtiodmhcmciohnaaG5
import Derived.Test.YtiodmhcmciohnaaG7
import Derived.Test.YtiodmhcmciohnaaG8
import Derived.Test.YtiodmhcmciohnaaG10
import Derived.Test.YtiodmhcmciohnaaG11

/-! Words for slices of parts (a place, bytes). -/
namespace Go.Proofs.Ytiodmhcmciohnaa
set_option linter.unusedVariables false
set_option linter.unusedSimpArgs false
open Go.RowKit

/-- A part: its place, its bytes. -/
abbrev Pt := Int × List UInt8
def ptcells (q : Pt × Value) : List Value := [.int .i64 q.1.1, q.2]
def flatT (qs : List (Pt × Value)) : List Value := qs.flatMap ptcells
theorem flatT_append (a b : List (Pt × Value)) : flatT (a ++ b) = flatT a ++ flatT b := by simp [flatT]
theorem flatT_length : ∀ qs : List (Pt × Value), (flatT qs).length = qs.length * 2
  | [] => rfl
  | q :: qs => by
    have := flatT_length qs
    unfold flatT at *
    rw [List.flatMap_cons, List.length_append, this, List.length_cons]
    show 2 + _ = _
    omega
theorem flatT_get : ∀ (qs : List (Pt × Value)) (i : Nat) (q : Pt × Value) (k : Nat), qs[i]? = some q → k < 2 → (flatT qs)[i * 2 + k]? = (ptcells q)[k]?
  | [], i, q, k, h, _ => by simp at h
  | q' :: qs, 0, q, k, h, hk => by
    obtain rfl : q' = q := by simpa using h
    unfold flatT
    rw [List.flatMap_cons, Nat.zero_mul, Nat.zero_add, List.getElem?_append_left (by show k < 2; exact hk)]
  | q' :: qs, i + 1, q, k, h, hk => by
    have := flatT_get qs i q k (by simpa using h) hk
    unfold flatT at *
    rw [List.flatMap_cons, List.getElem?_append_right (by show 2 ≤ _; omega)]
    show _[(i + 1) * 2 + k - 2]? = _
    rw [show (i + 1) * 2 + k - 2 = i * 2 + k by omega, this]

/-- v is the call's own row of parts; what they hold lies elsewhere. -/
def TOwn (w : World) (base : Nat) (ok : Nat → Prop) (v : Value) (qs : List (Pt × Value)) : Prop :=
  Own w base 68 2 v qs.length (flatT qs) ∧ ∀ q ∈ qs, BAt w (fun b => ok b ∧ v.ownBlock ≠ some b) q.2 q.1.2
theorem TOwn.nil (w : World) (base : Nat) (ok : Nat → Prop) : TOwn w base ok (.slice none 0 0) [] := ⟨Own.nil w base _ 2, fun _ h => by cases h⟩
theorem TOwn.keeps {w w' : World} {base : Nat} {ok : Nat → Prop} {v : Value} {qs : List (Pt × Value)} (h : TOwn w base ok v qs) (hk : Keeps (fun _ => False) w w') : TOwn w' base ok v qs :=
  ⟨Own.keeps h.1 hk (fun _ _ h => h), fun q hq => (h.2 q hq).keeps hk (fun _ _ h => h)⟩
theorem BAt.ltHeap {w : World} {p : Nat → Prop} {v : Value} {l : List UInt8} (h : BAt w p v l) : BAt w (fun b => p b ∧ b < w.heap.size) v l := SAt.lt h

theorem info_pt : (Try.prog.info? 68).map (fun i => (i.zero, i.size, i.bytes)) = some (some (.agg #[.int .i64 0, .slice none 0 0]), 2, 32) := by kernel_rfl

/-- A part behind parts. -/
theorem run_append_pt {w : World} {base : Nat} {ok : Nat → Prop} {v x : Value} {qs : List (Pt × Value)} {p : Pt × Value} {X : Nat → Prop} {ty : TypeId} (hown : TOwn w base ok v qs) (h1 : p.2.oneCell' = true)
    (hx : SAt w X 2 x 1 (ptcells p)) (hd : BAt w (fun b => ok b ∧ v.ownBlock ≠ some b) p.2 p.1.2) (hmax : qs.length ≤ 200000) (hbase : base ≤ w.heap.size) :
    ∃ v' w', (Builtin.append_ #[43, 43] ty #[v, x]).run Try.prog w = .ok v' w' ∧ TOwn w' base ok v' (qs ++ [p]) ∧ Keeps (fun b => v.ownBlock = some b) w w' ∧
      (v'.ownBlock = v.ownBlock ∨ ∃ b, v'.ownBlock = some b ∧ w.heap.size ≤ b) := by
  obtain ⟨i, hi, hz, hs, hb⟩ := info_parts info_pt
  obtain ⟨v', w', hr, ha⟩ := run_append (P := Try.prog) (ty := ty) (tx := 43) Try.underlying43 hi hz hs hb (by rfl) hown.1 (SAt.src Try.underlying43 hx (fun u hu => by
    unfold ptcells at hu
    simp only [List.mem_cons, List.not_mem_nil, or_false] at hu
    rcases hu with rfl | rfl
    · rfl
    · exact h1) (by omega))
    (by simp only [maxLen]; omega) (by omega) hbase
  have stay : ∀ (q : Pt × Value), BAt w (fun b => ok b ∧ v.ownBlock ≠ some b) q.2 q.1.2 → BAt w' (fun b => ok b ∧ v'.ownBlock ≠ some b) q.2 q.1.2 := fun q hq =>
    (hq.ltHeap.keeps ha.keeps (fun b hb => hb.1.2)).mono fun b hb => ⟨hb.1.1, fun e => by
      rcases ha.place with h | ⟨b', h, h'⟩
      · exact hb.1.2 (h ▸ e)
      · rw [h] at e
        have : b' = b := by simpa using e
        have := hb.2
        omega⟩
  refine ⟨v', w', hr, ⟨?_, fun q hq => ?_⟩, ha.keeps, ha.place⟩
  · have := ha.own
    rw [flatT_append, List.length_append]
    simpa [flatT] using this
  · rcases List.mem_append.1 hq with hq | hq
    · exact stay q (hown.2 q hq)
    · obtain rfl := List.mem_singleton.1 hq
      exact stay _ hd

/-- v reads these parts, in blocks of X. -/
def TRd (w : World) (X : Nat → Prop) (v : Value) (L : List Pt) : Prop :=
  ∃ qs : List (Pt × Value), qs.map (·.1) = L ∧ SAt w (fun b => X b ∧ b < w.heap.size) 2 v L.length (flatT qs) ∧ ∀ q ∈ qs, BAt w (fun b => X b ∧ b < w.heap.size) q.2 q.1.2
theorem BAt.keepX {w w' : World} {X S : Nat → Prop} {v : Value} {l : List UInt8} (h : BAt w (fun b => X b ∧ b < w.heap.size) v l) (hk : Keeps S w w') (hS : ∀ b, X b → ¬ S b) : BAt w' (fun b => X b ∧ b < w'.heap.size) v l :=
  (h.keeps hk (fun b hb => hS b hb.1)).mono fun _ hb => ⟨hb.1, Nat.lt_of_lt_of_le hb.2 hk.size⟩
theorem BAt.readX {w : World} {X : Nat → Prop} {v : Value} {l : List UInt8} (h : BAt w (fun b => X b ∧ b < w.heap.size) v l) : BRd w v l := h.mono fun _ hb => hb.2
theorem TRd.keeps {w w' : World} {X S : Nat → Prop} {v : Value} {L : List Pt} (h : TRd w X v L) (hk : Keeps S w w') (hS : ∀ b, X b → ¬ S b) : TRd w' X v L := by
  obtain ⟨qs, h1, h2, h3⟩ := h
  exact ⟨qs, h1, (SAt.keeps h2 hk (fun b hb => hS b hb.1)).mono fun b hb => ⟨hb.1, Nat.lt_of_lt_of_le hb.2 hk.size⟩, fun q hq => (h3 q hq).keepX hk hS⟩
theorem TOwn.reads {w : World} {base : Nat} {ok X : Nat → Prop} {v : Value} {qs : List (Pt × Value)} (h : TOwn w base ok v qs) (h1 : ∀ b, base ≤ b → X b) (h2 : ∀ b, ok b → X b) : TRd w X v (qs.map (·.1)) :=
  ⟨qs, rfl, by rw [List.length_map]; exact (Own.sat h.1).mono fun b hb => ⟨h1 b (Own.block h.1 b hb).1, (Own.block h.1 b hb).2⟩, fun q hq => ((h.2 q hq).mono fun b hb => h2 b hb.1).ltHeap⟩
theorem TRd.slice {w : World} {X : Nat → Prop} {v : Value} {L : List Pt} (h : TRd w X v L) : ∃ a c, v = .slice a L.length c ∧ L.length ≤ c ∧ c ≤ maxLen := by
  obtain ⟨qs, h1, h2, h3⟩ := h
  exact SAt.slice h2
theorem TRd.nil (w : World) (X : Nat → Prop) : TRd w X (.slice none 0 0) [] := ⟨[], rfl, SAt.nil w _ 2, fun _ h => by cases h⟩
/-- A part of a row: its cells. -/
theorem TRd.at {w : World} {X : Nat → Prop} {v : Value} {L : List Pt} (h : TRd w X v L) (i : Nat) (hi : i < L.length) :
    ∃ b off c dv, v = .slice (some ⟨b, off, none⟩) L.length c ∧ BAt w (fun b => X b ∧ b < w.heap.size) dv L[i].2 ∧ w.cell? ⟨b, off + i * 2, none⟩ = some (.int .i64 L[i].1) ∧ w.cell? ⟨b, off + i * 2 + 1, none⟩ = some dv := by
  obtain ⟨qs, rfl, ⟨h1, a', c', e, h3, h4, h5⟩, h6⟩ := h
  rw [List.length_map] at hi h1
  rcases h5 with h5 | ⟨b, off, hb, rfl, hc⟩
  · rw [h5] at h1; simp at h1; omega
  · obtain ⟨q, hq⟩ : ∃ q, qs[i]? = some q := ⟨_, List.getElem?_eq_getElem hi⟩
    have hg : (qs.map (·.1))[i]'(by simpa using hi) = q.1 := by
      rw [List.getElem_map]
      rw [List.getElem?_eq_getElem hi] at hq
      rw [Option.some.inj hq]
    rw [hg]
    refine ⟨b, off, c', q.2, e, h6 q (List.mem_of_getElem? hq), ?_, ?_⟩
    · have hf := flatT_get qs i q 0 hq (by omega)
      rw [Nat.add_zero] at hf
      exact hc _ _ hf
    · have hf := flatT_get qs i q 1 hq (by omega)
      rw [Nat.add_assoc]
      exact hc _ _ hf
theorem sat_pt (w : World) (p : Pt) (dv : Value) (T : TypeId) : SAt (w.alloc (.cells #[.int .i64 p.1, dv] T)) (fun _ => True) 2 (.slice (some ⟨w.heap.size, 0, none⟩) 1 1) 1 (ptcells (p, dv)) :=
  ⟨rfl, some ⟨w.heap.size, 0, none⟩, 1, rfl, by simp, by simp [maxLen], .inr ⟨w.heap.size, 0, trivial, rfl, fun j u hu => by
    rw [(RowAt.new w _ _).cell, Nat.zero_add]
    unfold ptcells at hu
    simpa using hu⟩⟩
end Go.Proofs.Ytiodmhcmciohnaa

/-! flow.end; words for the last part of a row. -/
namespace Go.Proofs.Ytiodmhcmciohnaa
set_option linter.unusedVariables false
set_option linter.unusedSimpArgs false
open Go.RowKit

def endF (p : Pt) : Int := p.1 + p.2.length
theorem end_any (p : Pt) (dv : Value) (w : World) (hd : BRd w dv p.2) (h1 : -1000000000000 ≤ p.1) (h2 : p.1 ≤ 1000000000000) (h3 : p.2.length ≤ 1000000000000) :
    Calls Try.prog 46 #[.agg #[.int .i64 p.1, dv]] w fun e w' => e = .returned (.int .i64 (endF p)) ∧ Keeps (fun _ => False) w w' := by
  obtain ⟨at', data⟩ := p
  obtain ⟨da, dc, rfl, -, -⟩ := hd.slice
  simp only at h1 h2 h3 ⊢
  have q1 := i64_fit (at' + (data.length : Int)) (by omega) (by omega)
  go_enter Try.func46, Try.ntmps46
  go_wp2
  go_ret
  exact ⟨rfl, (Keeps.refl _ _).alloc _⟩

/-- The last part of a row of the call's own: its cells; its bytes may be others. -/
theorem TOwn.last {w : World} {base : Nat} {ok : Nat → Prop} {v : Value} {ks : List (Pt × Value)} {a : Int} {d : List UInt8} {dv : Value} (h : TOwn w base ok v (ks ++ [((a, d), dv)])) :
    ∃ g off c, v = .slice (some ⟨g, off, none⟩) (ks.length + 1) c ∧ base ≤ g ∧ g < w.heap.size ∧ BAt w (fun b => ok b ∧ g ≠ b) dv d ∧ w.cell? ⟨g, off + ks.length * 2, none⟩ = some (.int .i64 a) ∧ w.cell? ⟨g, off + ks.length * 2 + 1, none⟩ = some dv ∧ (∃ cs, RowAt w g cs 68) ∧
      ∀ (w' : World) (dv' : Value) (d' : List UInt8), Keeps (fun _ => False) w w' → dv'.oneCell' = true → BAt w' (fun b => ok b ∧ g ≠ b) dv' d' →
        TOwn (w'.setCell ⟨g, off + ks.length * 2 + 1, none⟩ dv') base ok v (ks ++ [((a, d'), dv')]) := by
  obtain ⟨⟨h1, h0, h2⟩, hd⟩ := h
  rw [List.length_append, List.length_singleton] at h1 h2
  rcases h2 with ⟨-, h2, -⟩ | ⟨g, off, c, cs, hb, rfl, h3, h4, hr, h5, h6⟩
  · omega
  · have hf0 : (flatT (ks ++ [((a, d), dv)]))[ks.length * 2]? = some (.int .i64 a) := flatT_get _ ks.length ((a, d), dv) 0 (by simp) (by omega)
    have hf1 : (flatT (ks ++ [((a, d), dv)]))[ks.length * 2 + 1]? = some dv := flatT_get _ ks.length ((a, d), dv) 1 (by simp) (by omega)
    have hlt : off + ks.length * 2 + 1 < cs.size := by omega
    refine ⟨g, off, c, rfl, hb, hr.lt, (hd ((a, d), dv) (by simp)).mono fun b hb => ⟨hb.1, fun e => hb.2 (by subst e; rfl)⟩, ?_, ?_, ⟨cs, hr⟩, fun w' dv' d' hk h1' hd' => ⟨⟨?_, ?_, .inr ⟨g, off, c, cs.setIfInBounds (off + ks.length * 2 + 1) dv', hb, by simp, by simpa using h3, h4, (hr.keeps hk (fun h => h)).set _ _, by simpa using h5, fun j hj => ?_⟩⟩, fun q hq => ?_⟩⟩
    · rw [hr.cell, h6 _ (by omega), hf0]
    · rw [hr.cell, Nat.add_assoc, h6 _ (by omega), hf1]
    · rw [flatT_length]
    · intro u hu
      rw [flatT_append] at hu h0
      rcases List.mem_append.1 hu with hu | hu
      · exact h0 u (List.mem_append_left _ hu)
      · simp only [flatT, ptcells, List.flatMap_cons, List.flatMap_nil, List.append_nil, List.mem_cons, List.not_mem_nil, or_false] at hu
        rcases hu with rfl | rfl
        · rfl
        · exact h1'
    · have hj' : j < ks.length * 2 + 2 := by simpa [Nat.add_mul] using hj
      have hls : (flatT ks).length = ks.length * 2 := flatT_length ks
      rw [flatT_append] at h6 ⊢
      by_cases hj1 : j = ks.length * 2 + 1
      · subst hj1
        rw [← Nat.add_assoc, Array.getElem?_setIfInBounds_self_of_lt hlt, List.getElem?_append_right (by omega), hls]
        simp [flatT, ptcells]
      · rw [Array.getElem?_setIfInBounds_ne (by omega), h6 j (by omega)]
        by_cases hj0 : j < ks.length * 2
        · rw [List.getElem?_append_left (by omega), List.getElem?_append_left (by omega)]
        · obtain rfl : j = ks.length * 2 := by omega
          rw [List.getElem?_append_right (by omega), List.getElem?_append_right (by omega), hls]
          simp [flatT, ptcells]
    · have hks : Keeps (· = g) w' (w'.setCell ⟨g, off + ks.length * 2 + 1, none⟩ dv') := (Keeps.refl _ _).setCell _ _ (.inl rfl)
      rcases List.mem_append.1 hq with hq | hq
      · exact ((hd q (List.mem_append_left _ hq)).keeps hk (fun _ _ h => h)).keeps hks (fun b hb e => hb.2 (by subst e; rfl))
      · obtain rfl := List.mem_singleton.1 hq
        exact (hd'.mono (q := fun b => ok b ∧ (Value.slice (some ⟨g, off, none⟩) (ks.length + 1) c).ownBlock ≠ some b) fun b hb => ⟨hb.1, fun e => hb.2 (by simpa [Value.ownBlock] using e)⟩).keeps hks (fun b hb e => hb.2 (by subst e; rfl))

theorem BAt.recap {w : World} {p : Nat → Prop} {a : Option Addr} {n c : Nat} {l : List UInt8} (h : BAt w p (.slice a n c) l) (c' : Nat) (h1 : n ≤ c') (h2 : c' ≤ maxLen) : BAt w p (.slice a n c') l := by
  obtain ⟨h3, a', c1, e, h4, h5, h6⟩ := h
  simp only [Value.slice.injEq] at e
  obtain ⟨rfl, rfl, rfl⟩ := e
  exact ⟨h3, a, c', rfl, h1, h2, h6⟩
/-- An append where there is no room: the bytes lie in a new block. -/
theorem run_append_full {w : World} {a : Option Addr} {x : Value} {l m : List UInt8} {p q : Nat → Prop} {ty : TypeId} (hv : BAt w p (.slice a l.length l.length) l) (hx : BAt w q x m) (hm : 0 < m.length) (hmax : l.length + m.length ≤ 140737488355328) :
    ∃ v' w', (Builtin.append_ #[30, 30] ty #[.slice a l.length l.length, x]).run Try.prog w = .ok v' w' ∧ BOwn w' w.heap.size v' (l ++ m) ∧ Keeps (fun _ => False) w w' := by
  obtain ⟨i, hi, hz, hs, hb⟩ := info_parts info_u8
  have hsrc := SAt.src (tx := 30) Try.underlying30 hx (bcells_one m) (by omega)
  have hsrc' := hsrc
  rw [← hs] at hsrc'
  have hold : (Builtin.firstCells i.size l.length (.slice a l.length l.length)).run Try.prog w.drew = .ok (bcells l).toArray w.drew := by
    rw [hs]
    obtain ⟨h1, a', c', e, h3, h4, h5⟩ := hv
    simp only [Value.slice.injEq, true_and] at e
    obtain ⟨rfl, rfl⟩ := e
    rcases h5 with h5 | ⟨b, off, hb', rfl, hc⟩
    · have hl : l = [] := by simpa [bcells] using h5
      subst hl
      cases a with
      | none => exact run_firstCells_none (P := Try.prog) w.drew 1 0 0 0
      | some ad => exact run_firstCells_some w.drew 1 0 ad 0 0 [] (by simp) (fun j u hu => by simp at hu)
    · exact run_firstCells_some w.drew 1 l.length ⟨b, off, none⟩ l.length l.length (bcells l) (by rw [bcells_length, Nat.mul_one]) (fun j u hu => by
        rw [addr_add]
        exact hc j u hu)
  have hrun := run_append_grow_src (P := Try.prog) w 30 30 ty 5 i _ Try.underlying30 hi hz a l.length l.length (bcells l) hold x m.length (bcells m) hsrc' (by omega) (by omega) (growslice_fits (by omega) (by rw [hb]; omega))
  refine ⟨_, _, hrun, ⟨by rw [bcells_length, Nat.mul_one], bcells_one _, .inr ⟨w.heap.size, 0, grownCap w (l.length + m.length) l.length 5, _, Nat.le_refl _, by rw [List.length_append], by rw [List.length_append]; exact grownCap_ge _ _ _ _, grownCap_le_maxLen _ _ _ _ (by simp only [maxLen]; omega), RowAt.new w.drew _ _, ?_, fun j hj => ?_⟩⟩, ((Keeps.refl (fun _ => False) w).drew).alloc _⟩
  · have hge := grownCap_ge w (l.length + m.length) l.length 5
    have hzs : (Value.int .u8 0).cells.size = 1 := rfl
    simp only [Array.size_append, List.size_toArray, size_zeroCells, List.length_append, bcells_length, Nat.mul_one, hzs]
    omega
  · rw [Nat.zero_add, Array.getElem?_append_left (by simp [bcells_length]; simpa using hj), bcells_append]
    simp
end Go.Proofs.Ytiodmhcmciohnaa

/-! flow.merge's closure 'add'. -/
namespace Go.Proofs.Ytiodmhcmciohnaa
set_option linter.unusedVariables false
set_option linter.unusedSimpArgs false
open Go.RowKit

def addF (L : List Pt) (q : Pt) : List Pt :=
  match L.getLast? with
  | some l => if q.1 ≤ endF l then (if (endF l - q.1).toNat < q.2.length then L.dropLast ++ [(l.1, l.2 ++ q.2.drop (endF l - q.1).toNat)] else L) else if q.2 = [] then L else L ++ [q]
  | none => if q.2 = [] then L else L ++ [q]
theorem addF_last (K : List Pt) (l q : Pt) : addF (K ++ [l]) q = if q.1 ≤ endF l then (if (endF l - q.1).toNat < q.2.length then K ++ [(l.1, l.2 ++ q.2.drop (endF l - q.1).toNat)] else K ++ [l]) else if q.2 = [] then K ++ [l] else K ++ [l] ++ [q] := by
  unfold addF
  rw [List.getLast?_concat, List.dropLast_concat]

theorem TOwn.lit {w : World} {base : Nat} {ok : Nat → Prop} {v : Value} {qs : List (Pt × Value)} (h : TOwn w base ok v qs) : ∃ a n c, v = .slice a n c := by
  obtain ⟨a, c, e, -, -⟩ := SAt.slice h.1.sat
  exact ⟨a, _, c, e⟩
theorem TOwn.setC {w : World} {X : Nat → Prop} {c base : Nat} {v x : Value} {qs : List (Pt × Value)} (h : TOwn w base (fun b => b ≠ c ∧ X b) v qs) (hcb : c < base) : TOwn (w.setCell ⟨c, 0, none⟩ x) base (fun b => b ≠ c ∧ X b) v qs := by
  have hk : Keeps (· = c) w (w.setCell ⟨c, 0, none⟩ x) := (Keeps.refl _ _).setCell _ _ (.inl rfl)
  exact ⟨Own.keeps h.1 hk (fun b hb e => by have := (Own.block h.1 b hb).1; omega), fun q hq => (h.2 q hq).keeps hk (fun b hb e => hb.1.1 e)⟩

/-- How add ends. -/
def Added (X : Nat → Prop) (c base : Nat) (ov : Value) (L : List Pt) (w : World) (e : Ending) (w' : World) : Prop :=
  (∃ x, e = .returned x) ∧ Keeps (fun b => b = c ∨ ov.ownBlock = some b) w w' ∧ ∃ ov' qs', RowAt w' c #[ov'] 43 ∧ TOwn w' base (fun b => b ≠ c ∧ X b) ov' qs' ∧ qs'.map (·.1) = L ∧ (ov'.ownBlock = ov.ownBlock ∨ ∃ b, ov'.ownBlock = some b ∧ w.heap.size ≤ b)

set_option maxRecDepth 100000 in
set_option maxHeartbeats 4000000 in
theorem add_any (X : Nat → Prop) (q : Pt) (dv : Value) (c base : Nat) (ov : Value) (qs : List (Pt × Value)) (w : World) (hc : RowAt w c #[ov] 43) (hown : TOwn w base (fun b => b ≠ c ∧ X b) ov qs) (hX : ∀ b, c < b → X b) (hd : BAt w (fun b => b < c ∧ X b) dv q.2) (hcb : c < base) (hbase : base ≤ w.heap.size)
    (h1 : -1000000000 ≤ q.1) (h2 : q.1 ≤ 1000000000) (h3 : q.2.length ≤ 1000000000) (h4 : ∀ r ∈ qs, -1000000000 ≤ r.1.1 ∧ r.1.1 ≤ 1000000000 ∧ r.1.2.length ≤ 1000000000) (h5 : qs.length ≤ 100000) :
    Calls Try.prog 45 #[.agg #[.int .i64 q.1, dv], .pointer (some ⟨c, 0, none⟩)] w (Added X c base ov (addF (qs.map (·.1)) q) w) := by
  obtain ⟨at', data⟩ := q
  simp only at h1 h2 h3 hd ⊢
  obtain ⟨da, dc, rfl, hdc, -⟩ := hd.slice
  have hov := fun b (h : ov.ownBlock = some b) => Own.block hown.1 b h
  have hk0 := (Keeps.refl (fun _ => False) w).alloc (.cells #[.int .i64 at', .slice da data.length dc] 68)
  have hr0 := RowAt.new w #[.int .i64 at', .slice da data.length dc] 68
  have hcW := hc.alloc (.cells #[.int .i64 at', .slice da data.length dc] 68)
  have hownW := hown.keeps hk0
  have hdW := hd.keeps hk0 (fun _ _ h => h)
  have hsz : (w.alloc (.cells #[.int .i64 at', .slice da data.length dc] 68)).heap.size = w.heap.size + 1 := Array.size_push _
  generalize hw1 : w.alloc (.cells #[.int .i64 at', .slice da data.length dc] 68) = W at hk0 hr0 hcW hownW hdW hsz
  obtain ⟨g, hg⟩ : ∃ g, w.heap.size = g := ⟨_, rfl⟩
  rw [hg] at hr0 hsz hov hbase
  have hcg : c ≠ g := by omega
  have hcl : c < g := by omega
  rcases List.eq_nil_or_concat qs with rfl | ⟨ks, ⟨⟨la, ld⟩, lv⟩, rfl⟩
  · obtain ⟨oa, oc, rfl, -, -⟩ := SAt.slice hown.1.sat
    have hcell := hcW.one
    obtain ⟨g0, g1⟩ := hr0.two
    simp only [List.map_nil, List.length_nil] at *
    by_cases h0 : data = []
    · have e : addF [] (at', data) = [] := by unfold addF; simp [h0]
      rw [e]
      subst h0
      simp only [List.length_nil] at hw1 g1 hr0
      go_enter Try.func45, Try.ntmps45
      go_wp2
      go_quiet (fail)
      go_wp2
      refine bodyPost_end (results_none (by rfl) _ _ _) (by rfl) ?_
      unfold Added
      exact ⟨⟨_, rfl⟩, (hk0.drewN nq).mono (fun _ _ h => h.elim), _, [], hcW.drewN nq, hownW.keeps ((Keeps.refl _ _).drewN nq), rfl, .inl rfl⟩
    · have hl0 : 0 < data.length := List.length_pos_iff.2 h0
      have hl1 : (0 : Int) < (data.length : Int) := by omega
      have e : addF [] (at', data) = [(at', data)] := by unfold addF; simp [h0]
      rw [e]
      go_enter Try.func45, Try.ntmps45
      go_wp2
      go_quiet (fail)
      have hovE : ∃ ov, ov = Value.slice oa 0 oc := ⟨_, rfl⟩
      obtain ⟨ov, hovE⟩ := hovE
      rw [← hovE] at hownW hcW hov
      have hkX := ((Keeps.refl (fun _ => False) W).drewN nq).alloc (.cells #[.int .i64 at', .slice da data.length dc] 68)
      have hownX := hownW.keeps hkX
      have hcX := hcW.keeps hkX (fun h => h)
      have hdX := hdW.keeps hkX (fun _ _ h => h)
      have hsat := sat_pt (W.drewN nq) (at', data) (.slice da data.length dc) 68
      have hs2 : (W.drewN nq).heap.size = g + 1 := hsz
      rw [hs2] at hsat
      obtain ⟨v5, w5, hrun, ho5, hk5, hpl⟩ := run_append_pt (ty := 43) (p := ((at', data), .slice da data.length dc)) hownX rfl hsat (hdX.mono (fun b hb => ⟨⟨by have := hb.1; omega, hb.2⟩, fun e => by have := (hov b e).1; have := hb.1; omega⟩)) (by first | omega | (simp at h5 ⊢; done) | (simp at h5 ⊢; omega)) (by have := hkX.size; omega)
      have hpl2 : v5.ownBlock = ov.ownBlock ∨ ∃ b, v5.ownBlock = some b ∧ w.heap.size ≤ b := hpl.imp id fun ⟨b, h, h'⟩ => ⟨b, h, Nat.le_trans (Nat.le_trans hk0.size hkX.size) h'⟩
      obtain ⟨va5, n5, vc5, rfl⟩ := ho5.lit
      have HR := Lib.hid hrun
      have hc5 := hcX.keeps hk5 (fun e => by have := (hov c e).1; omega)
      have hcell5 := hc5.one
      have hfz5 := hc5.frozen 0
      have hkZ := ((hk0.trans hkX (fun _ _ h => h)).mono (S' := fun b => b = c ∨ ov.ownBlock = some b) (fun _ _ h => h.elim)).trans hk5 (fun _ _ h => .inr h)
      have ho6 := ho5.setC hcb (x := .slice va5 n5 vc5)
      have hc6 : RowAt (w5.setCell ⟨c, 0, none⟩ (.slice va5 n5 vc5)) c #[.slice va5 n5 vc5] 43 := (hc5.set 0 (.slice va5 n5 vc5)).eq rfl
      have hkY := hkZ.setCell ⟨c, 0, none⟩ (.slice va5 n5 vc5) (.inl (.inl rfl))
      clear hrun
      rw [hovE] at HR hc5 hcell5
      go_wp2_with (at_builtin; refine Lib.wpList_append_run _ rfl _ _ _ _ rfl _ _ rfl rfl _ _ HR.out ?_)
      refine bodyPost_end (results_none (by rfl) _ _ _) (by rfl) ?_
      rw [hovE] at hkY hpl2
      unfold Added
      exact ⟨⟨_, rfl⟩, hkY, _, _, hc6, ho6, rfl, hpl2⟩
  · simp only [List.concat_eq_append] at *
    rw [List.map_append, List.map_cons, List.map_nil, addF_last]
    have HXX := Lib.hid hX
    obtain ⟨vg, vo, vc, hve, hgb, hgl, hlv, k0, k1, ⟨kcs, krow⟩, hset⟩ := hown.last
    obtain ⟨lva, lvc, rfl, hlvc, -⟩ := hlv.slice
    obtain ⟨e1, e2, e3⟩ : -1000000000 ≤ la ∧ la ≤ 1000000000 ∧ ld.length ≤ 1000000000 := h4 ((la, ld), .slice lva ld.length lvc) (by simp)
    have hkl : ks.length ≤ 100000 := by rw [List.length_append] at h5; omega
    have q1 : IntKind.i64.wrap ((ks.length : Int) + 1 - 1) = (ks.length : Int) := by rw [i64_fit _ (by omega) (by omega)]; omega
    have hend := fun W' hk => end_any (la, ld) (.slice lva ld.length lvc) W' (BRd.keeps (hlv.low) hk) (by show _ ≤ la; omega) (by show la ≤ _; omega) (by show ld.length ≤ _; omega)
    have HEND := Lib.hid hend
    have HSET := Lib.hid hset
    have HLV := Lib.hid hlv
    clear hend hset hlv h4 hX
    obtain ⟨m, hm⟩ : ∃ m, ks.length * 2 = m := ⟨_, rfl⟩
    rw [hm] at k0 k1
    have hkk : (ks.length : Int) < (ks.length : Int) + 1 := by omega
    obtain ⟨g0, g1⟩ := hr0.two
    have hcell := hcW.one
    rw [hve] at hcell
    have HVE := Lib.hid hve
    clear hve
    have j0 := hk0.cell k0 (fun h => h)
    have j1 := hk0.cell k1 (fun h => h)
    obtain ⟨ev, hev⟩ : ∃ ev, endF (la, ld) = ev := ⟨_, rfl⟩
    by_cases hge : at' ≤ ev
    · rw [hev, if_pos hge]
      obtain ⟨more, hmore⟩ : ∃ more : Nat, (ev - at').toNat = more := ⟨_, rfl⟩
      rw [hmore]
      have q2 : IntKind.i64.wrap (ev - at') = (more : Int) := by
        have : ev = la + ld.length := hev.symm
        rw [i64_fit _ (by omega) (by omega)]; omega
      have hm0 : (0 : Int) ≤ (more : Int) := by omega
      have hmx : max (more : Int) 0 = (more : Int) := by omega
      have HMO := Lib.hid hmore
      clear hmore
      by_cases hlt : more < data.length
      · rw [if_pos hlt]
        have hlt' : (more : Int) < (data.length : Int) := by omega
        obtain ⟨db, do_, dc', e, hdc2, hdm, hdb, -⟩ := hd.get (by omega)
        simp only [Value.slice.injEq] at e
        obtain ⟨rfl, -, rfl⟩ := e
        obtain ⟨o2, e2, hdrop, -⟩ := BAt.cut hd more (by omega)
        have hcn : ¬ dc = more := by omega
        rw [if_neg hcn] at e2
        simp only [Option.some.injEq, Addr.mk.injEq, and_true, true_and] at e2
        subst e2
        have hmc : (more : Int) ≤ (data.length : Int) := by omega
        have hlc : (ld.length : Int) ≤ (lvc : Int) := by omega
        have HDR := Lib.hid hdrop
        have hdl : 0 < (data.drop more).length := by rw [List.length_drop]; omega
        have hdl2 : (data.drop more).length ≤ 1000000000 := by rw [List.length_drop]; omega
        have HDL := Lib.hid (And.intro hdl hdl2)
        clear hdrop hdl hdl2
        go_enter Try.func45, Try.ntmps45
        go_wp2
        refine region_T [] (fun x => x.cell? ⟨c, 0, none⟩ = some (.slice (some ⟨vg, vo, none⟩) (ks.length + 1) vc) ∧ x.cell? ⟨vg, vo + m, none⟩ = some (.int .i64 la) ∧ x.cell? ⟨vg, vo + m + 1, none⟩ = some (.slice lva ld.length lvc) ∧ x.cell? ⟨g, 0, none⟩ = some (.int .i64 at')) (by kernel_rfl) ?_
        have hC : (fun x : World => x.cell? ⟨c, 0, none⟩ = some (.slice (some ⟨vg, vo, none⟩) (ks.length + 1) vc) ∧ x.cell? ⟨vg, vo + m, none⟩ = some (.int .i64 la) ∧ x.cell? ⟨vg, vo + m + 1, none⟩ = some (.slice lva ld.length lvc) ∧ x.cell? ⟨g, 0, none⟩ = some (.int .i64 at')) W.drew := ⟨hcell, j0, j1, g0⟩
        refine anyT_take0 (i := 0) (v := ?_) rfl (by kernel_rfl) (by kernel_rfl) (by kernel_rfl) (by kernel_rfl) (by kernel_rfl) (fun _ _ _ h => h) hC (.inl ⟨by rfl, fun _ _ => ?_⟩) ?_
        rotate_left 1
        · go_simp
          try with_reducible rfl
        simp only [Act.put, List.getElem_toArray, List.getElem_cons_succ, List.getElem_cons_zero, List.setIfInBounds_toArray, List.set_cons_zero, List.set_cons_succ]
        refine anyT_take0 (i := 1) (v := ?_) rfl (by kernel_rfl) (by kernel_rfl) (by kernel_rfl) (by kernel_rfl) (by kernel_rfl) (fun _ _ _ h => h) hC (.inl ⟨by rfl, fun _ _ => ?_⟩) ?_
        rotate_left 1
        · go_simp
          try with_reducible rfl
        simp only [Act.put, List.getElem_toArray, List.getElem_cons_succ, List.getElem_cons_zero, List.setIfInBounds_toArray, List.set_cons_zero, List.set_cons_succ]
        refine anyT_take0 (i := 2) (v := ?_) rfl (by kernel_rfl) (by kernel_rfl) (by kernel_rfl) (by kernel_rfl) (by kernel_rfl) (fun _ _ _ h => h) hC (.inl ⟨by rfl, fun _ _ => ?_⟩) ?_
        rotate_left 1
        · go_simp
          try with_reducible rfl
        simp only [Act.put, List.getElem_toArray, List.getElem_cons_succ, List.getElem_cons_zero, List.setIfInBounds_toArray, List.set_cons_zero, List.set_cons_succ]
        refine anyT_takeC (i := 3) (v := ?_) rfl (by kernel_rfl) (by kernel_rfl) (by kernel_rfl) (by kernel_rfl) (by kernel_rfl) (by kernel_rfl) (fun _ _ _ h => h) hC (.inl ⟨by rfl, fun w hCw => ?_⟩) ?_
        rotate_left 1
        · dsimp only at hCw
          go_simp
          try with_reducible rfl
        simp only [Act.put, List.getElem_toArray, List.getElem_cons_succ, List.getElem_cons_zero, List.setIfInBounds_toArray, List.set_cons_zero, List.set_cons_succ]
        refine anyT_take0 (i := 4) (v := ?_) rfl (by kernel_rfl) (by kernel_rfl) (by kernel_rfl) (by kernel_rfl) (by kernel_rfl) (fun _ _ _ h => h) hC (.inl ⟨by rfl, fun _ _ => ?_⟩) ?_
        rotate_left 1
        · go_simp
          try with_reducible rfl
        simp only [Act.put, List.getElem_toArray, List.getElem_cons_succ, List.getElem_cons_zero, List.setIfInBounds_toArray, List.set_cons_zero, List.set_cons_succ]
        refine anyT_take0 (i := 5) (v := ?_) rfl (by kernel_rfl) (by kernel_rfl) (by kernel_rfl) (by kernel_rfl) (by kernel_rfl) (fun _ _ _ h => h) hC (.inl ⟨by rfl, fun _ _ => ?_⟩) ?_
        rotate_left 1
        · go_simp
          try with_reducible rfl
        simp only [Act.put, List.getElem_toArray, List.getElem_cons_succ, List.getElem_cons_zero, List.setIfInBounds_toArray, List.set_cons_zero, List.set_cons_succ]
        refine anyT_takeC (i := 6) (v := ?_) rfl (by kernel_rfl) (by kernel_rfl) (by kernel_rfl) (by kernel_rfl) (by kernel_rfl) (by kernel_rfl) (fun _ _ _ h => h) hC (.inl ⟨by rfl, fun w hCw => ?_⟩) ?_
        rotate_left 1
        · dsimp only at hCw
          go_simp
          try with_reducible rfl
        simp only [Act.put, List.getElem_toArray, List.getElem_cons_succ, List.getElem_cons_zero, List.setIfInBounds_toArray, List.set_cons_zero, List.set_cons_succ]
        refine anyT_take0 (i := 8) (v := ?_) rfl (by kernel_rfl) (by kernel_rfl) (by kernel_rfl) (by kernel_rfl) (by kernel_rfl) (fun _ _ _ h => h) hC (.inl ⟨by rfl, fun _ _ => ?_⟩) ?_
        rotate_left 1
        · go_simp
          try with_reducible rfl
        simp only [Act.put, List.getElem_toArray, List.getElem_cons_succ, List.getElem_cons_zero, List.setIfInBounds_toArray, List.set_cons_zero, List.set_cons_succ]
        refine anyT_takeC (i := 9) (v := ?_) rfl (by kernel_rfl) (by kernel_rfl) (by kernel_rfl) (by kernel_rfl) (by kernel_rfl) (by kernel_rfl) (fun _ _ _ h => h) hC (.inl ⟨by rfl, fun w hCw => ?_⟩) ?_
        rotate_left 1
        · dsimp only at hCw
          go_simp
          try with_reducible rfl
        simp only [Act.put, List.getElem_toArray, List.getElem_cons_succ, List.getElem_cons_zero, List.setIfInBounds_toArray, List.set_cons_zero, List.set_cons_succ]
        refine anyT_force (i := 7) rfl (by kernel_rfl) (by rfl) ?_
        go_simp
        refine (HEND.out _ hk0.drew).mono ?_
        rintro e w3 ⟨rfl, hk3⟩
        have hk3' : Keeps (fun _ => False) W w3 := (Keeps.refl (fun _ => False) W).drew.trans hk3 (fun _ _ h => h)
        have hC : (fun x : World => x.cell? ⟨c, 0, none⟩ = some (.slice (some ⟨vg, vo, none⟩) (ks.length + 1) vc) ∧ x.cell? ⟨vg, vo + m, none⟩ = some (.int .i64 la) ∧ x.cell? ⟨vg, vo + m + 1, none⟩ = some (.slice lva ld.length lvc) ∧ x.cell? ⟨g, 0, none⟩ = some (.int .i64 at')) w3 := ⟨hk3'.cell hcell (fun h => h), hk3'.cell j0 (fun h => h), hk3'.cell j1 (fun h => h), hk3'.cell g0 (fun h => h)⟩
        have g1' := hk3'.cell g1 (fun h => h)
        obtain ⟨cc0, cj0, cj1, cg0⟩ := hC
        have hC := And.intro cc0 (And.intro cj0 (And.intro cj1 cg0))
        refine ⟨fun _ => hC, ?_⟩
        rw [hev]
        refine anyT_take0 (i := 10) (v := ?_) rfl (by kernel_rfl) (by kernel_rfl) (by kernel_rfl) (by kernel_rfl) (by kernel_rfl) (fun _ _ _ h => h) hC (.inl ⟨by rfl, fun _ _ => ?_⟩) ?_
        rotate_left 1
        · go_simp
          try with_reducible rfl
        simp only [Act.put, List.getElem_toArray, List.getElem_cons_succ, List.getElem_cons_zero, List.setIfInBounds_toArray, List.set_cons_zero, List.set_cons_succ]
        refine anyT_take0 (i := 11) (v := ?_) rfl (by kernel_rfl) (by kernel_rfl) (by kernel_rfl) (by kernel_rfl) (by kernel_rfl) (fun _ _ _ h => h) hC (.inl ⟨by rfl, fun _ _ => ?_⟩) ?_
        rotate_left 1
        · go_simp
          try with_reducible rfl
        simp only [Act.put, List.getElem_toArray, List.getElem_cons_succ, List.getElem_cons_zero, List.setIfInBounds_toArray, List.set_cons_zero, List.set_cons_succ]
        refine (show anyT _ _ _ _ _ _ 0 _ _ _ from ⟨by kernel_rfl, ?_⟩)
        go_wp2
        have q4c := cc0
        refine region_T [] (fun x => x.cell? ⟨c, 0, none⟩ = some (.slice (some ⟨vg, vo, none⟩) (ks.length + 1) vc) ∧ x.cell? ⟨vg, vo + m, none⟩ = some (.int .i64 la) ∧ x.cell? ⟨vg, vo + m + 1, none⟩ = some (.slice lva ld.length lvc) ∧ x.cell? ⟨g, 0, none⟩ = some (.int .i64 at')) (by kernel_rfl) ?_
        have hC : (fun x : World => x.cell? ⟨c, 0, none⟩ = some (.slice (some ⟨vg, vo, none⟩) (ks.length + 1) vc) ∧ x.cell? ⟨vg, vo + m, none⟩ = some (.int .i64 la) ∧ x.cell? ⟨vg, vo + m + 1, none⟩ = some (.slice lva ld.length lvc) ∧ x.cell? ⟨g, 0, none⟩ = some (.int .i64 at')) w3.drew := ⟨cc0, cj0, cj1, cg0⟩
        refine anyT_takeC (i := 0) (v := ?_) rfl (by kernel_rfl) (by kernel_rfl) (by kernel_rfl) (by kernel_rfl) (by kernel_rfl) (by kernel_rfl) (fun _ _ _ h => h) hC (.inl ⟨by rfl, fun w hCw => ?_⟩) ?_
        rotate_left 1
        · dsimp only at hCw
          go_simp
          try with_reducible rfl
        simp only [Act.put, List.getElem_toArray, List.getElem_cons_succ, List.getElem_cons_zero, List.setIfInBounds_toArray, List.set_cons_zero, List.set_cons_succ]
        refine anyT_take0 (i := 1) (v := ?_) rfl (by kernel_rfl) (by kernel_rfl) (by kernel_rfl) (by kernel_rfl) (by kernel_rfl) (fun _ _ _ h => h) hC (.inl ⟨by rfl, fun _ _ => ?_⟩) ?_
        rotate_left 1
        · go_simp
          try with_reducible rfl
        simp only [Act.put, List.getElem_toArray, List.getElem_cons_succ, List.getElem_cons_zero, List.setIfInBounds_toArray, List.set_cons_zero, List.set_cons_succ]
        refine anyT_take0 (i := 2) (v := ?_) rfl (by kernel_rfl) (by kernel_rfl) (by kernel_rfl) (by kernel_rfl) (by kernel_rfl) (fun _ _ _ h => h) hC (.inl ⟨by rfl, fun _ _ => ?_⟩) ?_
        rotate_left 1
        · go_simp
          try with_reducible rfl
        simp only [Act.put, List.getElem_toArray, List.getElem_cons_succ, List.getElem_cons_zero, List.setIfInBounds_toArray, List.set_cons_zero, List.set_cons_succ]
        refine anyT_takeC (i := 3) (v := ?_) rfl (by kernel_rfl) (by kernel_rfl) (by kernel_rfl) (by kernel_rfl) (by kernel_rfl) (by kernel_rfl) (fun _ _ _ h => h) hC (.inl ⟨by rfl, fun w hCw => ?_⟩) ?_
        rotate_left 1
        · dsimp only at hCw
          go_simp
          try with_reducible rfl
        simp only [Act.put, List.getElem_toArray, List.getElem_cons_succ, List.getElem_cons_zero, List.setIfInBounds_toArray, List.set_cons_zero, List.set_cons_succ]
        refine anyT_take0 (i := 5) (v := ?_) rfl (by kernel_rfl) (by kernel_rfl) (by kernel_rfl) (by kernel_rfl) (by kernel_rfl) (fun _ _ _ h => h) hC (.inl ⟨by rfl, fun _ _ => ?_⟩) ?_
        rotate_left 1
        · go_simp
          try with_reducible rfl
        simp only [Act.put, List.getElem_toArray, List.getElem_cons_succ, List.getElem_cons_zero, List.setIfInBounds_toArray, List.set_cons_zero, List.set_cons_succ]
        refine anyT_takeC (i := 6) (v := ?_) rfl (by kernel_rfl) (by kernel_rfl) (by kernel_rfl) (by kernel_rfl) (by kernel_rfl) (by kernel_rfl) (fun _ _ _ h => h) hC (.inl ⟨by rfl, fun w hCw => ?_⟩) ?_
        rotate_left 1
        · dsimp only at hCw
          go_simp
          try with_reducible rfl
        simp only [Act.put, List.getElem_toArray, List.getElem_cons_succ, List.getElem_cons_zero, List.setIfInBounds_toArray, List.set_cons_zero, List.set_cons_succ]
        refine anyT_force (i := 4) rfl (by kernel_rfl) (by rfl) ?_
        go_simp
        refine (HEND.out _ ((hk0.trans hk3' (fun _ _ h => h)).drew)).mono ?_
        rintro e w4 ⟨rfl, hk4⟩
        have hk4' : Keeps (fun _ => False) w3 w4 := (Keeps.refl (fun _ => False) w3).drew.trans hk4 (fun _ _ h => h)
        have hC : (fun x : World => x.cell? ⟨c, 0, none⟩ = some (.slice (some ⟨vg, vo, none⟩) (ks.length + 1) vc) ∧ x.cell? ⟨vg, vo + m, none⟩ = some (.int .i64 la) ∧ x.cell? ⟨vg, vo + m + 1, none⟩ = some (.slice lva ld.length lvc) ∧ x.cell? ⟨g, 0, none⟩ = some (.int .i64 at')) w4 := ⟨hk4'.cell cc0 (fun h => h), hk4'.cell cj0 (fun h => h), hk4'.cell cj1 (fun h => h), hk4'.cell cg0 (fun h => h)⟩
        have g1'' := hk4'.cell g1' (fun h => h)
        obtain ⟨dc0, dj0, dj1, dg0⟩ := hC
        have hC := And.intro dc0 (And.intro dj0 (And.intro dj1 dg0))
        refine ⟨fun _ => hC, ?_⟩
        rw [hev]
        refine anyT_take0 (i := 7) (v := ?_) rfl (by kernel_rfl) (by kernel_rfl) (by kernel_rfl) (by kernel_rfl) (by kernel_rfl) (fun _ _ _ h => h) hC (.inl ⟨by rfl, fun _ _ => ?_⟩) ?_
        rotate_left 1
        · go_simp
          try with_reducible rfl
        simp only [Act.put, List.getElem_toArray, List.getElem_cons_succ, List.getElem_cons_zero, List.setIfInBounds_toArray, List.set_cons_zero, List.set_cons_succ]
        refine anyT_take0 (i := 8) (v := ?_) rfl (by kernel_rfl) (by kernel_rfl) (by kernel_rfl) (by kernel_rfl) (by kernel_rfl) (fun _ _ _ h => h) hC (.inl ⟨by rfl, fun _ _ => ?_⟩) ?_
        rotate_left 1
        · go_simp
          try with_reducible rfl
        simp only [Act.put, List.getElem_toArray, List.getElem_cons_succ, List.getElem_cons_zero, List.setIfInBounds_toArray, List.set_cons_zero, List.set_cons_succ]
        refine anyT_take0 (i := 9) (v := ?_) rfl (by kernel_rfl) (by kernel_rfl) (by kernel_rfl) (by kernel_rfl) (by kernel_rfl) (fun _ _ _ h => h) hC (.inl ⟨by rfl, fun _ _ => ?_⟩) ?_
        rotate_left 1
        · go_simp
          try with_reducible rfl
        simp only [Act.put, List.getElem_toArray, List.getElem_cons_succ, List.getElem_cons_zero, List.setIfInBounds_toArray, List.set_cons_zero, List.set_cons_succ]
        refine (show anyT _ _ _ _ _ _ 0 _ _ _ from ⟨by kernel_rfl, ?_⟩)
        go_wp2
        have hkk4 := hk3'.trans hk4' (fun _ _ h => h)
        have hkw4 := hk0.trans hkk4 (fun _ _ h => h)
        refine region_T [27] (fun x => x.cell? ⟨c, 0, none⟩ = some (.slice (some ⟨vg, vo, none⟩) (ks.length + 1) vc) ∧ x.cell? ⟨vg, vo + m + 1, none⟩ = some (.slice lva ld.length lvc) ∧ x.cell? ⟨g, 1, none⟩ = some (.slice (some ⟨db, do_, none⟩) data.length dc)) (by kernel_rfl) ?_
        have hC : (fun x : World => x.cell? ⟨c, 0, none⟩ = some (.slice (some ⟨vg, vo, none⟩) (ks.length + 1) vc) ∧ x.cell? ⟨vg, vo + m + 1, none⟩ = some (.slice lva ld.length lvc) ∧ x.cell? ⟨g, 1, none⟩ = some (.slice (some ⟨db, do_, none⟩) data.length dc)) w4.drew := ⟨dc0, dj1, g1''⟩
        refine anyT_takeC (i := 0) (v := ?_) rfl (by kernel_rfl) (by kernel_rfl) (by kernel_rfl) (by kernel_rfl) (by kernel_rfl) (by kernel_rfl) (fun _ _ _ h => h) hC (.inl ⟨by rfl, fun w hCw => ?_⟩) ?_
        rotate_left 1
        · dsimp only at hCw
          go_simp
          try with_reducible rfl
        simp only [Act.put, List.getElem_toArray, List.getElem_cons_succ, List.getElem_cons_zero, List.setIfInBounds_toArray, List.set_cons_zero, List.set_cons_succ]
        refine anyT_take0 (i := 1) (v := ?_) rfl (by kernel_rfl) (by kernel_rfl) (by kernel_rfl) (by kernel_rfl) (by kernel_rfl) (fun _ _ _ h => h) hC (.inl ⟨by rfl, fun _ _ => ?_⟩) ?_
        rotate_left 1
        · go_simp
          try with_reducible rfl
        simp only [Act.put, List.getElem_toArray, List.getElem_cons_succ, List.getElem_cons_zero, List.setIfInBounds_toArray, List.set_cons_zero, List.set_cons_succ]
        refine anyT_takeC (i := 2) (v := ?_) rfl (by kernel_rfl) (by kernel_rfl) (by kernel_rfl) (by kernel_rfl) (by kernel_rfl) (by kernel_rfl) (fun _ _ _ h => h) hC (.inl ⟨by rfl, fun w hCw => ?_⟩) ?_
        rotate_left 1
        · dsimp only at hCw
          go_simp
          try with_reducible rfl
        simp only [Act.put, List.getElem_toArray, List.getElem_cons_succ, List.getElem_cons_zero, List.setIfInBounds_toArray, List.set_cons_zero, List.set_cons_succ]
        refine anyT_take0 (i := 3) (v := ?_) rfl (by kernel_rfl) (by kernel_rfl) (by kernel_rfl) (by kernel_rfl) (by kernel_rfl) (fun _ _ _ h => h) hC (.inl ⟨by rfl, fun _ _ => ?_⟩) ?_
        rotate_left 1
        · go_simp
          try with_reducible rfl
        simp only [Act.put, List.getElem_toArray, List.getElem_cons_succ, List.getElem_cons_zero, List.setIfInBounds_toArray, List.set_cons_zero, List.set_cons_succ]
        refine anyT_take0 (i := 4) (v := ?_) rfl (by kernel_rfl) (by kernel_rfl) (by kernel_rfl) (by kernel_rfl) (by kernel_rfl) (fun _ _ _ h => h) hC (.inl ⟨by rfl, fun _ _ => ?_⟩) ?_
        rotate_left 1
        · go_simp
          try with_reducible rfl
        simp only [Act.put, List.getElem_toArray, List.getElem_cons_succ, List.getElem_cons_zero, List.setIfInBounds_toArray, List.set_cons_zero, List.set_cons_succ]
        refine anyT_take0 (i := 5) (v := ?_) rfl (by kernel_rfl) (by kernel_rfl) (by kernel_rfl) (by kernel_rfl) (by kernel_rfl) (fun _ _ _ h => h) hC (.inl ⟨by rfl, fun _ _ => ?_⟩) ?_
        rotate_left 1
        · go_simp
          try with_reducible rfl
        simp only [Act.put, List.getElem_toArray, List.getElem_cons_succ, List.getElem_cons_zero, List.setIfInBounds_toArray, List.set_cons_zero, List.set_cons_succ]
        refine anyT_takeC (i := 6) (v := ?_) rfl (by kernel_rfl) (by kernel_rfl) (by kernel_rfl) (by kernel_rfl) (by kernel_rfl) (by kernel_rfl) (fun _ _ _ h => h) hC (.inl ⟨by rfl, fun w hCw => ?_⟩) ?_
        rotate_left 1
        · dsimp only at hCw
          go_simp
          try with_reducible rfl
        simp only [Act.put, List.getElem_toArray, List.getElem_cons_succ, List.getElem_cons_zero, List.setIfInBounds_toArray, List.set_cons_zero, List.set_cons_succ]
        refine anyT_takeC (i := 7) (v := ?_) rfl (by kernel_rfl) (by kernel_rfl) (by kernel_rfl) (by kernel_rfl) (by kernel_rfl) (by kernel_rfl) (fun _ _ _ h => h) hC (.inl ⟨by rfl, fun w hCw => ?_⟩) ?_
        rotate_left 1
        · dsimp only at hCw
          go_simp
          try with_reducible rfl
        simp only [Act.put, List.getElem_toArray, List.getElem_cons_succ, List.getElem_cons_zero, List.setIfInBounds_toArray, List.set_cons_zero, List.set_cons_succ]
        refine anyT_take0 (i := 8) (v := ?_) rfl (by kernel_rfl) (by kernel_rfl) (by kernel_rfl) (by kernel_rfl) (by kernel_rfl) (fun _ _ _ h => h) hC (.inl ⟨by rfl, fun _ _ => ?_⟩) ?_
        rotate_left 1
        · go_simp
          try with_reducible rfl
        simp only [Act.put, List.getElem_toArray, List.getElem_cons_succ, List.getElem_cons_zero, List.setIfInBounds_toArray, List.set_cons_zero, List.set_cons_succ]
        refine anyT_take0 (i := 9) (v := ?_) rfl (by kernel_rfl) (by kernel_rfl) (by kernel_rfl) (by kernel_rfl) (by kernel_rfl) (fun _ _ _ h => h) hC (.inl ⟨by rfl, fun _ _ => ?_⟩) ?_
        rotate_left 1
        · go_simp
          try with_reducible rfl
        simp only [Act.put, List.getElem_toArray, List.getElem_cons_succ, List.getElem_cons_zero, List.setIfInBounds_toArray, List.set_cons_zero, List.set_cons_succ]
        refine anyT_take0 (i := 10) (v := ?_) rfl (by kernel_rfl) (by kernel_rfl) (by kernel_rfl) (by kernel_rfl) (by kernel_rfl) (fun _ _ _ h => h) hC (.inl ⟨by rfl, fun _ _ => ?_⟩) ?_
        rotate_left 1
        · go_simp
          try with_reducible rfl
        simp only [Act.put, List.getElem_toArray, List.getElem_cons_succ, List.getElem_cons_zero, List.setIfInBounds_toArray, List.set_cons_zero, List.set_cons_succ]
        refine anyT_takeC (i := 11) (v := ?_) rfl (by kernel_rfl) (by kernel_rfl) (by kernel_rfl) (by kernel_rfl) (by kernel_rfl) (by kernel_rfl) (fun _ _ _ h => h) hC (.inl ⟨by rfl, fun w hCw => ?_⟩) ?_
        rotate_left 1
        · dsimp only at hCw
          go_simp
          try with_reducible rfl
        simp only [Act.put, List.getElem_toArray, List.getElem_cons_succ, List.getElem_cons_zero, List.setIfInBounds_toArray, List.set_cons_zero, List.set_cons_succ]
        refine anyT_take0 (i := 12) (v := ?_) rfl (by kernel_rfl) (by kernel_rfl) (by kernel_rfl) (by kernel_rfl) (by kernel_rfl) (fun _ _ _ h => h) hC (.inl ⟨by rfl, fun _ _ => ?_⟩) ?_
        rotate_left 1
        · go_simp
          try with_reducible rfl
        simp only [Act.put, List.getElem_toArray, List.getElem_cons_succ, List.getElem_cons_zero, List.setIfInBounds_toArray, List.set_cons_zero, List.set_cons_succ]
        refine anyT_takeC (i := 13) (v := ?_) rfl (by kernel_rfl) (by kernel_rfl) (by kernel_rfl) (by kernel_rfl) (by kernel_rfl) (by kernel_rfl) (fun _ _ _ h => h) hC (.inl ⟨by rfl, fun w hCw => ?_⟩) ?_
        rotate_left 1
        · dsimp only at hCw
          go_simp
          try with_reducible rfl
        simp only [Act.put, List.getElem_toArray, List.getElem_cons_succ, List.getElem_cons_zero, List.setIfInBounds_toArray, List.set_cons_zero, List.set_cons_succ]
        refine anyT_take0 (i := 14) (v := ?_) rfl (by kernel_rfl) (by kernel_rfl) (by kernel_rfl) (by kernel_rfl) (by kernel_rfl) (fun _ _ _ h => h) hC (.inl ⟨by rfl, fun _ _ => ?_⟩) ?_
        rotate_left 1
        · go_simp
          try with_reducible rfl
        simp only [Act.put, List.getElem_toArray, List.getElem_cons_succ, List.getElem_cons_zero, List.setIfInBounds_toArray, List.set_cons_zero, List.set_cons_succ]
        refine anyT_take0 (i := 15) (v := ?_) rfl (by kernel_rfl) (by kernel_rfl) (by kernel_rfl) (by kernel_rfl) (by kernel_rfl) (fun _ _ _ h => h) hC (.inl ⟨by rfl, fun _ _ => ?_⟩) ?_
        rotate_left 1
        · go_simp
          try with_reducible rfl
        simp only [Act.put, List.getElem_toArray, List.getElem_cons_succ, List.getElem_cons_zero, List.setIfInBounds_toArray, List.set_cons_zero, List.set_cons_succ]
        refine anyT_take0 (i := 16) (v := ?_) rfl (by kernel_rfl) (by kernel_rfl) (by kernel_rfl) (by kernel_rfl) (by kernel_rfl) (fun _ _ _ h => h) hC (.inl ⟨by rfl, fun _ _ => ?_⟩) ?_
        rotate_left 1
        · go_simp
          try with_reducible rfl
        simp only [Act.put, List.getElem_toArray, List.getElem_cons_succ, List.getElem_cons_zero, List.setIfInBounds_toArray, List.set_cons_zero, List.set_cons_succ]
        refine anyT_takeC (i := 17) (v := ?_) rfl (by kernel_rfl) (by kernel_rfl) (by kernel_rfl) (by kernel_rfl) (by kernel_rfl) (by kernel_rfl) (fun _ _ _ h => h) hC (.inl ⟨by rfl, fun w hCw => ?_⟩) ?_
        rotate_left 1
        · dsimp only at hCw
          go_simp
          try with_reducible rfl
        simp only [Act.put, List.getElem_toArray, List.getElem_cons_succ, List.getElem_cons_zero, List.setIfInBounds_toArray, List.set_cons_zero, List.set_cons_succ]
        refine anyT_take0 (i := 18) (v := ?_) rfl (by kernel_rfl) (by kernel_rfl) (by kernel_rfl) (by kernel_rfl) (by kernel_rfl) (fun _ _ _ h => h) hC (.inl ⟨by rfl, fun _ _ => ?_⟩) ?_
        rotate_left 1
        · go_simp
          try with_reducible rfl
        simp only [Act.put, List.getElem_toArray, List.getElem_cons_succ, List.getElem_cons_zero, List.setIfInBounds_toArray, List.set_cons_zero, List.set_cons_succ]
        refine anyT_take0 (i := 19) (v := ?_) rfl (by kernel_rfl) (by kernel_rfl) (by kernel_rfl) (by kernel_rfl) (by kernel_rfl) (fun _ _ _ h => h) hC (.inl ⟨by rfl, fun _ _ => ?_⟩) ?_
        rotate_left 1
        · go_simp
          try with_reducible rfl
        simp only [Act.put, List.getElem_toArray, List.getElem_cons_succ, List.getElem_cons_zero, List.setIfInBounds_toArray, List.set_cons_zero, List.set_cons_succ]
        refine anyT_take0 (i := 20) (v := ?_) rfl (by kernel_rfl) (by kernel_rfl) (by kernel_rfl) (by kernel_rfl) (by kernel_rfl) (fun _ _ _ h => h) hC (.inl ⟨by rfl, fun _ _ => ?_⟩) ?_
        rotate_left 1
        · go_simp
          try with_reducible rfl
        simp only [Act.put, List.getElem_toArray, List.getElem_cons_succ, List.getElem_cons_zero, List.setIfInBounds_toArray, List.set_cons_zero, List.set_cons_succ]
        refine anyT_takeC (i := 21) (v := ?_) rfl (by kernel_rfl) (by kernel_rfl) (by kernel_rfl) (by kernel_rfl) (by kernel_rfl) (by kernel_rfl) (fun _ _ _ h => h) hC (.inl ⟨by rfl, fun w hCw => ?_⟩) ?_
        rotate_left 1
        · dsimp only at hCw
          go_simp
          try with_reducible rfl
        simp only [Act.put, List.getElem_toArray, List.getElem_cons_succ, List.getElem_cons_zero, List.setIfInBounds_toArray, List.set_cons_zero, List.set_cons_succ]
        refine anyT_take0 (i := 22) (v := ?_) rfl (by kernel_rfl) (by kernel_rfl) (by kernel_rfl) (by kernel_rfl) (by kernel_rfl) (fun _ _ _ h => h) hC (.inl ⟨by rfl, fun _ _ => ?_⟩) ?_
        rotate_left 1
        · go_simp
          try with_reducible rfl
        simp only [Act.put, List.getElem_toArray, List.getElem_cons_succ, List.getElem_cons_zero, List.setIfInBounds_toArray, List.set_cons_zero, List.set_cons_succ]
        refine anyT_take0 (i := 23) (v := ?_) rfl (by kernel_rfl) (by kernel_rfl) (by kernel_rfl) (by kernel_rfl) (by kernel_rfl) (fun _ _ _ h => h) hC (.inl ⟨by rfl, fun _ _ => ?_⟩) ?_
        rotate_left 1
        · go_simp
          try with_reducible rfl
        simp only [Act.put, List.getElem_toArray, List.getElem_cons_succ, List.getElem_cons_zero, List.setIfInBounds_toArray, List.set_cons_zero, List.set_cons_succ]
        have hdl := HDL.out
        have hw4d := hkw4.drew
        have hmaxl : ld.length ≤ maxLen := by simp only [maxLen]; omega
        have hvl := (HLV.out.keeps hw4d (fun _ _ h => h)).recap ld.length (Nat.le_refl _) hmaxl
        obtain ⟨v5, w5, hrun, ho5, hk5⟩ := run_append_full (ty := 30) hvl (HDR.out.keeps hw4d (fun _ _ h => h)) hdl.1 (by omega)
        obtain ⟨va5, vc5, rfl, -, -⟩ := BOwn.slice ho5
        obtain ⟨n5, hn5⟩ : ∃ n5, (ld ++ data.drop more).length = n5 := ⟨_, rfl⟩
        rw [hn5] at hrun ho5
        have HR := Lib.hid hrun
        have hw5 := hw4d.trans hk5 (fun _ _ h => h)
        have hC5 : (fun x : World => x.cell? ⟨c, 0, none⟩ = some (.slice (some ⟨vg, vo, none⟩) (ks.length + 1) vc) ∧ x.cell? ⟨vg, vo + m + 1, none⟩ = some (.slice lva ld.length lvc) ∧ x.cell? ⟨g, 1, none⟩ = some (.slice (some ⟨db, do_, none⟩) data.length dc)) w5 := ⟨hk5.cell hC.1 (fun h => h), hk5.cell hC.2.1 (fun h => h), hk5.cell hC.2.2 (fun h => h)⟩
        clear hrun hn5
        refine anyT_force (i := 24) rfl (by kernel_rfl) (by rfl) ?_
        refine Lib.wp_append_run _ _ _ _ _ rfl _ _ rfl rfl _ _ HR.out ?_
        refine ⟨fun _ => hC5, ?_⟩
        simp only [Act.put, List.getElem_toArray, List.getElem_cons_succ, List.getElem_cons_zero, List.setIfInBounds_toArray, List.set_cons_zero, List.set_cons_succ]
        have hC := hC5
        refine anyT_take0 (i := 25) (v := ?_) rfl (by kernel_rfl) (by kernel_rfl) (by kernel_rfl) (by kernel_rfl) (by kernel_rfl) (fun _ _ _ h => h) hC (.inl ⟨by rfl, fun _ _ => ?_⟩) ?_
        rotate_left 1
        · go_simp
          try with_reducible rfl
        simp only [Act.put, List.getElem_toArray, List.getElem_cons_succ, List.getElem_cons_zero, List.setIfInBounds_toArray, List.set_cons_zero, List.set_cons_succ]
        refine anyT_take0 (i := 26) (v := ?_) rfl (by kernel_rfl) (by kernel_rfl) (by kernel_rfl) (by kernel_rfl) (by kernel_rfl) (fun _ _ _ h => h) hC (.inl ⟨by rfl, fun _ _ => ?_⟩) ?_
        rotate_left 1
        · go_simp
          try with_reducible rfl
        simp only [Act.put, List.getElem_toArray, List.getElem_cons_succ, List.getElem_cons_zero, List.setIfInBounds_toArray, List.set_cons_zero, List.set_cons_succ]
        have hrow5 := krow.keeps hw5 (fun h => h)
        have hfz := hrow5.frozen (vo + m + 1)
        have hcl5 : w5.cell? ⟨vg, vo + m + 1, none⟩ = some (.slice lva ld.length lvc) := hC5.2.1
        refine anyT_force (i := 27) rfl (by kernel_rfl) (by rfl) ?_
        go_simp
        refine ⟨fun hy => absurd (hy 27 (by simp)) (by simp), ?_⟩
        refine anyT_restart [] (fun _ => True) ⟨27, by rfl, by simp⟩ ?_
        refine (show anyT _ _ _ _ _ _ 0 _ _ _ from ⟨by kernel_rfl, ?_⟩)
        go_wp2
        refine bodyPost_ret (results_none (by rfl) _ _ _) (by rfl) ?_
        have hwc : ∀ b, w4.drew.heap.size ≤ b → (b ≠ c ∧ X b) ∧ vg ≠ b := fun b hb => by
          have := hw4d.size
          exact ⟨⟨by omega, HXX.out b (by omega)⟩, by omega⟩
        have hset := HSET.out w5 (.slice va5 n5 vc5) (ld ++ data.drop more) hw5 rfl (ho5.ge.mono fun b hb => hwc b hb)
        rw [hm] at hset
        have hfin : Keeps (fun b => b = c ∨ ov.ownBlock = some b) w (w5.setCell ⟨vg, vo + m + 1, none⟩ (.slice va5 n5 vc5)) := (hw5.mono (fun _ _ h => h.elim)).setCell _ _ (.inl (.inr (by rw [HVE.out]; rfl)))
        unfold Added
        exact ⟨⟨_, rfl⟩, hfin, ov, ks ++ [((la, ld ++ data.drop more), .slice va5 n5 vc5)], (hc.keeps hw5 (fun h => h)).setOther _ _ (by show c ≠ vg; omega), hset, by simp, .inl rfl⟩
      · rw [if_neg hlt]
        have hlt' : (data.length : Int) ≤ (more : Int) := by omega
        go_enter Try.func45, Try.ntmps45
        go_wp2
        refine region_T [] (fun x => x.cell? ⟨c, 0, none⟩ = some (.slice (some ⟨vg, vo, none⟩) (ks.length + 1) vc) ∧ x.cell? ⟨vg, vo + m, none⟩ = some (.int .i64 la) ∧ x.cell? ⟨vg, vo + m + 1, none⟩ = some (.slice lva ld.length lvc) ∧ x.cell? ⟨g, 0, none⟩ = some (.int .i64 at')) (by kernel_rfl) ?_
        have hC : (fun x : World => x.cell? ⟨c, 0, none⟩ = some (.slice (some ⟨vg, vo, none⟩) (ks.length + 1) vc) ∧ x.cell? ⟨vg, vo + m, none⟩ = some (.int .i64 la) ∧ x.cell? ⟨vg, vo + m + 1, none⟩ = some (.slice lva ld.length lvc) ∧ x.cell? ⟨g, 0, none⟩ = some (.int .i64 at')) W.drew := ⟨hcell, j0, j1, g0⟩
        refine anyT_take0 (i := 0) (v := ?_) rfl (by kernel_rfl) (by kernel_rfl) (by kernel_rfl) (by kernel_rfl) (by kernel_rfl) (fun _ _ _ h => h) hC (.inl ⟨by rfl, fun _ _ => ?_⟩) ?_
        rotate_left 1
        · go_simp
          try with_reducible rfl
        simp only [Act.put, List.getElem_toArray, List.getElem_cons_succ, List.getElem_cons_zero, List.setIfInBounds_toArray, List.set_cons_zero, List.set_cons_succ]
        refine anyT_take0 (i := 1) (v := ?_) rfl (by kernel_rfl) (by kernel_rfl) (by kernel_rfl) (by kernel_rfl) (by kernel_rfl) (fun _ _ _ h => h) hC (.inl ⟨by rfl, fun _ _ => ?_⟩) ?_
        rotate_left 1
        · go_simp
          try with_reducible rfl
        simp only [Act.put, List.getElem_toArray, List.getElem_cons_succ, List.getElem_cons_zero, List.setIfInBounds_toArray, List.set_cons_zero, List.set_cons_succ]
        refine anyT_take0 (i := 2) (v := ?_) rfl (by kernel_rfl) (by kernel_rfl) (by kernel_rfl) (by kernel_rfl) (by kernel_rfl) (fun _ _ _ h => h) hC (.inl ⟨by rfl, fun _ _ => ?_⟩) ?_
        rotate_left 1
        · go_simp
          try with_reducible rfl
        simp only [Act.put, List.getElem_toArray, List.getElem_cons_succ, List.getElem_cons_zero, List.setIfInBounds_toArray, List.set_cons_zero, List.set_cons_succ]
        refine anyT_takeC (i := 3) (v := ?_) rfl (by kernel_rfl) (by kernel_rfl) (by kernel_rfl) (by kernel_rfl) (by kernel_rfl) (by kernel_rfl) (fun _ _ _ h => h) hC (.inl ⟨by rfl, fun w hCw => ?_⟩) ?_
        rotate_left 1
        · dsimp only at hCw
          go_simp
          try with_reducible rfl
        simp only [Act.put, List.getElem_toArray, List.getElem_cons_succ, List.getElem_cons_zero, List.setIfInBounds_toArray, List.set_cons_zero, List.set_cons_succ]
        refine anyT_take0 (i := 4) (v := ?_) rfl (by kernel_rfl) (by kernel_rfl) (by kernel_rfl) (by kernel_rfl) (by kernel_rfl) (fun _ _ _ h => h) hC (.inl ⟨by rfl, fun _ _ => ?_⟩) ?_
        rotate_left 1
        · go_simp
          try with_reducible rfl
        simp only [Act.put, List.getElem_toArray, List.getElem_cons_succ, List.getElem_cons_zero, List.setIfInBounds_toArray, List.set_cons_zero, List.set_cons_succ]
        refine anyT_take0 (i := 5) (v := ?_) rfl (by kernel_rfl) (by kernel_rfl) (by kernel_rfl) (by kernel_rfl) (by kernel_rfl) (fun _ _ _ h => h) hC (.inl ⟨by rfl, fun _ _ => ?_⟩) ?_
        rotate_left 1
        · go_simp
          try with_reducible rfl
        simp only [Act.put, List.getElem_toArray, List.getElem_cons_succ, List.getElem_cons_zero, List.setIfInBounds_toArray, List.set_cons_zero, List.set_cons_succ]
        refine anyT_takeC (i := 6) (v := ?_) rfl (by kernel_rfl) (by kernel_rfl) (by kernel_rfl) (by kernel_rfl) (by kernel_rfl) (by kernel_rfl) (fun _ _ _ h => h) hC (.inl ⟨by rfl, fun w hCw => ?_⟩) ?_
        rotate_left 1
        · dsimp only at hCw
          go_simp
          try with_reducible rfl
        simp only [Act.put, List.getElem_toArray, List.getElem_cons_succ, List.getElem_cons_zero, List.setIfInBounds_toArray, List.set_cons_zero, List.set_cons_succ]
        refine anyT_take0 (i := 8) (v := ?_) rfl (by kernel_rfl) (by kernel_rfl) (by kernel_rfl) (by kernel_rfl) (by kernel_rfl) (fun _ _ _ h => h) hC (.inl ⟨by rfl, fun _ _ => ?_⟩) ?_
        rotate_left 1
        · go_simp
          try with_reducible rfl
        simp only [Act.put, List.getElem_toArray, List.getElem_cons_succ, List.getElem_cons_zero, List.setIfInBounds_toArray, List.set_cons_zero, List.set_cons_succ]
        refine anyT_takeC (i := 9) (v := ?_) rfl (by kernel_rfl) (by kernel_rfl) (by kernel_rfl) (by kernel_rfl) (by kernel_rfl) (by kernel_rfl) (fun _ _ _ h => h) hC (.inl ⟨by rfl, fun w hCw => ?_⟩) ?_
        rotate_left 1
        · dsimp only at hCw
          go_simp
          try with_reducible rfl
        simp only [Act.put, List.getElem_toArray, List.getElem_cons_succ, List.getElem_cons_zero, List.setIfInBounds_toArray, List.set_cons_zero, List.set_cons_succ]
        refine anyT_force (i := 7) rfl (by kernel_rfl) (by rfl) ?_
        go_simp
        refine (HEND.out _ hk0.drew).mono ?_
        rintro e w3 ⟨rfl, hk3⟩
        have hk3' : Keeps (fun _ => False) W w3 := (Keeps.refl (fun _ => False) W).drew.trans hk3 (fun _ _ h => h)
        have hC : (fun x : World => x.cell? ⟨c, 0, none⟩ = some (.slice (some ⟨vg, vo, none⟩) (ks.length + 1) vc) ∧ x.cell? ⟨vg, vo + m, none⟩ = some (.int .i64 la) ∧ x.cell? ⟨vg, vo + m + 1, none⟩ = some (.slice lva ld.length lvc) ∧ x.cell? ⟨g, 0, none⟩ = some (.int .i64 at')) w3 := ⟨hk3'.cell hcell (fun h => h), hk3'.cell j0 (fun h => h), hk3'.cell j1 (fun h => h), hk3'.cell g0 (fun h => h)⟩
        have g1' := hk3'.cell g1 (fun h => h)
        obtain ⟨cc0, cj0, cj1, cg0⟩ := hC
        have hC := And.intro cc0 (And.intro cj0 (And.intro cj1 cg0))
        refine ⟨fun _ => hC, ?_⟩
        rw [hev]
        refine anyT_take0 (i := 10) (v := ?_) rfl (by kernel_rfl) (by kernel_rfl) (by kernel_rfl) (by kernel_rfl) (by kernel_rfl) (fun _ _ _ h => h) hC (.inl ⟨by rfl, fun _ _ => ?_⟩) ?_
        rotate_left 1
        · go_simp
          try with_reducible rfl
        simp only [Act.put, List.getElem_toArray, List.getElem_cons_succ, List.getElem_cons_zero, List.setIfInBounds_toArray, List.set_cons_zero, List.set_cons_succ]
        refine anyT_take0 (i := 11) (v := ?_) rfl (by kernel_rfl) (by kernel_rfl) (by kernel_rfl) (by kernel_rfl) (by kernel_rfl) (fun _ _ _ h => h) hC (.inl ⟨by rfl, fun _ _ => ?_⟩) ?_
        rotate_left 1
        · go_simp
          try with_reducible rfl
        simp only [Act.put, List.getElem_toArray, List.getElem_cons_succ, List.getElem_cons_zero, List.setIfInBounds_toArray, List.set_cons_zero, List.set_cons_succ]
        refine (show anyT _ _ _ _ _ _ 0 _ _ _ from ⟨by kernel_rfl, ?_⟩)
        go_wp2
        have q4c := cc0
        refine region_T [] (fun x => x.cell? ⟨c, 0, none⟩ = some (.slice (some ⟨vg, vo, none⟩) (ks.length + 1) vc) ∧ x.cell? ⟨vg, vo + m, none⟩ = some (.int .i64 la) ∧ x.cell? ⟨vg, vo + m + 1, none⟩ = some (.slice lva ld.length lvc) ∧ x.cell? ⟨g, 0, none⟩ = some (.int .i64 at')) (by kernel_rfl) ?_
        have hC : (fun x : World => x.cell? ⟨c, 0, none⟩ = some (.slice (some ⟨vg, vo, none⟩) (ks.length + 1) vc) ∧ x.cell? ⟨vg, vo + m, none⟩ = some (.int .i64 la) ∧ x.cell? ⟨vg, vo + m + 1, none⟩ = some (.slice lva ld.length lvc) ∧ x.cell? ⟨g, 0, none⟩ = some (.int .i64 at')) w3.drew := ⟨cc0, cj0, cj1, cg0⟩
        refine anyT_takeC (i := 0) (v := ?_) rfl (by kernel_rfl) (by kernel_rfl) (by kernel_rfl) (by kernel_rfl) (by kernel_rfl) (by kernel_rfl) (fun _ _ _ h => h) hC (.inl ⟨by rfl, fun w hCw => ?_⟩) ?_
        rotate_left 1
        · dsimp only at hCw
          go_simp
          try with_reducible rfl
        simp only [Act.put, List.getElem_toArray, List.getElem_cons_succ, List.getElem_cons_zero, List.setIfInBounds_toArray, List.set_cons_zero, List.set_cons_succ]
        refine anyT_take0 (i := 1) (v := ?_) rfl (by kernel_rfl) (by kernel_rfl) (by kernel_rfl) (by kernel_rfl) (by kernel_rfl) (fun _ _ _ h => h) hC (.inl ⟨by rfl, fun _ _ => ?_⟩) ?_
        rotate_left 1
        · go_simp
          try with_reducible rfl
        simp only [Act.put, List.getElem_toArray, List.getElem_cons_succ, List.getElem_cons_zero, List.setIfInBounds_toArray, List.set_cons_zero, List.set_cons_succ]
        refine anyT_take0 (i := 2) (v := ?_) rfl (by kernel_rfl) (by kernel_rfl) (by kernel_rfl) (by kernel_rfl) (by kernel_rfl) (fun _ _ _ h => h) hC (.inl ⟨by rfl, fun _ _ => ?_⟩) ?_
        rotate_left 1
        · go_simp
          try with_reducible rfl
        simp only [Act.put, List.getElem_toArray, List.getElem_cons_succ, List.getElem_cons_zero, List.setIfInBounds_toArray, List.set_cons_zero, List.set_cons_succ]
        refine anyT_takeC (i := 3) (v := ?_) rfl (by kernel_rfl) (by kernel_rfl) (by kernel_rfl) (by kernel_rfl) (by kernel_rfl) (by kernel_rfl) (fun _ _ _ h => h) hC (.inl ⟨by rfl, fun w hCw => ?_⟩) ?_
        rotate_left 1
        · dsimp only at hCw
          go_simp
          try with_reducible rfl
        simp only [Act.put, List.getElem_toArray, List.getElem_cons_succ, List.getElem_cons_zero, List.setIfInBounds_toArray, List.set_cons_zero, List.set_cons_succ]
        refine anyT_take0 (i := 5) (v := ?_) rfl (by kernel_rfl) (by kernel_rfl) (by kernel_rfl) (by kernel_rfl) (by kernel_rfl) (fun _ _ _ h => h) hC (.inl ⟨by rfl, fun _ _ => ?_⟩) ?_
        rotate_left 1
        · go_simp
          try with_reducible rfl
        simp only [Act.put, List.getElem_toArray, List.getElem_cons_succ, List.getElem_cons_zero, List.setIfInBounds_toArray, List.set_cons_zero, List.set_cons_succ]
        refine anyT_takeC (i := 6) (v := ?_) rfl (by kernel_rfl) (by kernel_rfl) (by kernel_rfl) (by kernel_rfl) (by kernel_rfl) (by kernel_rfl) (fun _ _ _ h => h) hC (.inl ⟨by rfl, fun w hCw => ?_⟩) ?_
        rotate_left 1
        · dsimp only at hCw
          go_simp
          try with_reducible rfl
        simp only [Act.put, List.getElem_toArray, List.getElem_cons_succ, List.getElem_cons_zero, List.setIfInBounds_toArray, List.set_cons_zero, List.set_cons_succ]
        refine anyT_force (i := 4) rfl (by kernel_rfl) (by rfl) ?_
        go_simp
        refine (HEND.out _ ((hk0.trans hk3' (fun _ _ h => h)).drew)).mono ?_
        rintro e w4 ⟨rfl, hk4⟩
        have hk4' : Keeps (fun _ => False) w3 w4 := (Keeps.refl (fun _ => False) w3).drew.trans hk4 (fun _ _ h => h)
        have hC : (fun x : World => x.cell? ⟨c, 0, none⟩ = some (.slice (some ⟨vg, vo, none⟩) (ks.length + 1) vc) ∧ x.cell? ⟨vg, vo + m, none⟩ = some (.int .i64 la) ∧ x.cell? ⟨vg, vo + m + 1, none⟩ = some (.slice lva ld.length lvc) ∧ x.cell? ⟨g, 0, none⟩ = some (.int .i64 at')) w4 := ⟨hk4'.cell cc0 (fun h => h), hk4'.cell cj0 (fun h => h), hk4'.cell cj1 (fun h => h), hk4'.cell cg0 (fun h => h)⟩
        have g1'' := hk4'.cell g1' (fun h => h)
        obtain ⟨dc0, dj0, dj1, dg0⟩ := hC
        have hC := And.intro dc0 (And.intro dj0 (And.intro dj1 dg0))
        refine ⟨fun _ => hC, ?_⟩
        rw [hev]
        refine anyT_take0 (i := 7) (v := ?_) rfl (by kernel_rfl) (by kernel_rfl) (by kernel_rfl) (by kernel_rfl) (by kernel_rfl) (fun _ _ _ h => h) hC (.inl ⟨by rfl, fun _ _ => ?_⟩) ?_
        rotate_left 1
        · go_simp
          try with_reducible rfl
        simp only [Act.put, List.getElem_toArray, List.getElem_cons_succ, List.getElem_cons_zero, List.setIfInBounds_toArray, List.set_cons_zero, List.set_cons_succ]
        refine anyT_take0 (i := 8) (v := ?_) rfl (by kernel_rfl) (by kernel_rfl) (by kernel_rfl) (by kernel_rfl) (by kernel_rfl) (fun _ _ _ h => h) hC (.inl ⟨by rfl, fun _ _ => ?_⟩) ?_
        rotate_left 1
        · go_simp
          try with_reducible rfl
        simp only [Act.put, List.getElem_toArray, List.getElem_cons_succ, List.getElem_cons_zero, List.setIfInBounds_toArray, List.set_cons_zero, List.set_cons_succ]
        refine anyT_take0 (i := 9) (v := ?_) rfl (by kernel_rfl) (by kernel_rfl) (by kernel_rfl) (by kernel_rfl) (by kernel_rfl) (fun _ _ _ h => h) hC (.inl ⟨by rfl, fun _ _ => ?_⟩) ?_
        rotate_left 1
        · go_simp
          try with_reducible rfl
        simp only [Act.put, List.getElem_toArray, List.getElem_cons_succ, List.getElem_cons_zero, List.setIfInBounds_toArray, List.set_cons_zero, List.set_cons_succ]
        refine (show anyT _ _ _ _ _ _ 0 _ _ _ from ⟨by kernel_rfl, ?_⟩)
        go_wp2
        refine bodyPost_ret (results_none (by rfl) _ _ _) (by rfl) ?_
        have hkk4 := hk3'.trans hk4' (fun _ _ h => h)
        unfold Added
        exact ⟨⟨_, rfl⟩, (hk0.trans hkk4 (fun _ _ h => h)).mono (fun _ _ h => h.elim), ov, ks ++ [((la, ld), .slice lva ld.length lvc)], hcW.keeps hkk4 (fun h => h), hownW.keeps hkk4, by simp, .inl rfl⟩
    · rw [hev, if_neg hge]
      have hlt : ev < at' := by omega
      by_cases h0 : data = []
      · rw [if_pos h0]
        subst h0
        simp only [List.length_nil] at hw1 g1 hr0
        go_enter Try.func45, Try.ntmps45
        go_wp2
        refine region_T [] (fun x => x.cell? ⟨c, 0, none⟩ = some (.slice (some ⟨vg, vo, none⟩) (ks.length + 1) vc) ∧ x.cell? ⟨vg, vo + m, none⟩ = some (.int .i64 la) ∧ x.cell? ⟨vg, vo + m + 1, none⟩ = some (.slice lva ld.length lvc) ∧ x.cell? ⟨g, 0, none⟩ = some (.int .i64 at')) (by kernel_rfl) ?_
        have hC : (fun x : World => x.cell? ⟨c, 0, none⟩ = some (.slice (some ⟨vg, vo, none⟩) (ks.length + 1) vc) ∧ x.cell? ⟨vg, vo + m, none⟩ = some (.int .i64 la) ∧ x.cell? ⟨vg, vo + m + 1, none⟩ = some (.slice lva ld.length lvc) ∧ x.cell? ⟨g, 0, none⟩ = some (.int .i64 at')) W.drew := ⟨hcell, j0, j1, g0⟩
        refine anyT_take0 (i := 0) (v := ?_) rfl (by kernel_rfl) (by kernel_rfl) (by kernel_rfl) (by kernel_rfl) (by kernel_rfl) (fun _ _ _ h => h) hC (.inl ⟨by rfl, fun _ _ => ?_⟩) ?_
        rotate_left 1
        · go_simp
          try with_reducible rfl
        simp only [Act.put, List.getElem_toArray, List.getElem_cons_succ, List.getElem_cons_zero, List.setIfInBounds_toArray, List.set_cons_zero, List.set_cons_succ]
        refine anyT_take0 (i := 1) (v := ?_) rfl (by kernel_rfl) (by kernel_rfl) (by kernel_rfl) (by kernel_rfl) (by kernel_rfl) (fun _ _ _ h => h) hC (.inl ⟨by rfl, fun _ _ => ?_⟩) ?_
        rotate_left 1
        · go_simp
          try with_reducible rfl
        simp only [Act.put, List.getElem_toArray, List.getElem_cons_succ, List.getElem_cons_zero, List.setIfInBounds_toArray, List.set_cons_zero, List.set_cons_succ]
        refine anyT_take0 (i := 2) (v := ?_) rfl (by kernel_rfl) (by kernel_rfl) (by kernel_rfl) (by kernel_rfl) (by kernel_rfl) (fun _ _ _ h => h) hC (.inl ⟨by rfl, fun _ _ => ?_⟩) ?_
        rotate_left 1
        · go_simp
          try with_reducible rfl
        simp only [Act.put, List.getElem_toArray, List.getElem_cons_succ, List.getElem_cons_zero, List.setIfInBounds_toArray, List.set_cons_zero, List.set_cons_succ]
        refine anyT_takeC (i := 3) (v := ?_) rfl (by kernel_rfl) (by kernel_rfl) (by kernel_rfl) (by kernel_rfl) (by kernel_rfl) (by kernel_rfl) (fun _ _ _ h => h) hC (.inl ⟨by rfl, fun w hCw => ?_⟩) ?_
        rotate_left 1
        · dsimp only at hCw
          go_simp
          try with_reducible rfl
        simp only [Act.put, List.getElem_toArray, List.getElem_cons_succ, List.getElem_cons_zero, List.setIfInBounds_toArray, List.set_cons_zero, List.set_cons_succ]
        refine anyT_take0 (i := 4) (v := ?_) rfl (by kernel_rfl) (by kernel_rfl) (by kernel_rfl) (by kernel_rfl) (by kernel_rfl) (fun _ _ _ h => h) hC (.inl ⟨by rfl, fun _ _ => ?_⟩) ?_
        rotate_left 1
        · go_simp
          try with_reducible rfl
        simp only [Act.put, List.getElem_toArray, List.getElem_cons_succ, List.getElem_cons_zero, List.setIfInBounds_toArray, List.set_cons_zero, List.set_cons_succ]
        refine anyT_take0 (i := 5) (v := ?_) rfl (by kernel_rfl) (by kernel_rfl) (by kernel_rfl) (by kernel_rfl) (by kernel_rfl) (fun _ _ _ h => h) hC (.inl ⟨by rfl, fun _ _ => ?_⟩) ?_
        rotate_left 1
        · go_simp
          try with_reducible rfl
        simp only [Act.put, List.getElem_toArray, List.getElem_cons_succ, List.getElem_cons_zero, List.setIfInBounds_toArray, List.set_cons_zero, List.set_cons_succ]
        refine anyT_takeC (i := 6) (v := ?_) rfl (by kernel_rfl) (by kernel_rfl) (by kernel_rfl) (by kernel_rfl) (by kernel_rfl) (by kernel_rfl) (fun _ _ _ h => h) hC (.inl ⟨by rfl, fun w hCw => ?_⟩) ?_
        rotate_left 1
        · dsimp only at hCw
          go_simp
          try with_reducible rfl
        simp only [Act.put, List.getElem_toArray, List.getElem_cons_succ, List.getElem_cons_zero, List.setIfInBounds_toArray, List.set_cons_zero, List.set_cons_succ]
        refine anyT_take0 (i := 8) (v := ?_) rfl (by kernel_rfl) (by kernel_rfl) (by kernel_rfl) (by kernel_rfl) (by kernel_rfl) (fun _ _ _ h => h) hC (.inl ⟨by rfl, fun _ _ => ?_⟩) ?_
        rotate_left 1
        · go_simp
          try with_reducible rfl
        simp only [Act.put, List.getElem_toArray, List.getElem_cons_succ, List.getElem_cons_zero, List.setIfInBounds_toArray, List.set_cons_zero, List.set_cons_succ]
        refine anyT_takeC (i := 9) (v := ?_) rfl (by kernel_rfl) (by kernel_rfl) (by kernel_rfl) (by kernel_rfl) (by kernel_rfl) (by kernel_rfl) (fun _ _ _ h => h) hC (.inl ⟨by rfl, fun w hCw => ?_⟩) ?_
        rotate_left 1
        · dsimp only at hCw
          go_simp
          try with_reducible rfl
        simp only [Act.put, List.getElem_toArray, List.getElem_cons_succ, List.getElem_cons_zero, List.setIfInBounds_toArray, List.set_cons_zero, List.set_cons_succ]
        refine anyT_force (i := 7) rfl (by kernel_rfl) (by rfl) ?_
        go_simp
        refine (HEND.out _ hk0.drew).mono ?_
        rintro e w3 ⟨rfl, hk3⟩
        have hk3' : Keeps (fun _ => False) W w3 := (Keeps.refl (fun _ => False) W).drew.trans hk3 (fun _ _ h => h)
        have hC : (fun x : World => x.cell? ⟨c, 0, none⟩ = some (.slice (some ⟨vg, vo, none⟩) (ks.length + 1) vc) ∧ x.cell? ⟨vg, vo + m, none⟩ = some (.int .i64 la) ∧ x.cell? ⟨vg, vo + m + 1, none⟩ = some (.slice lva ld.length lvc) ∧ x.cell? ⟨g, 0, none⟩ = some (.int .i64 at')) w3 := ⟨hk3'.cell hcell (fun h => h), hk3'.cell j0 (fun h => h), hk3'.cell j1 (fun h => h), hk3'.cell g0 (fun h => h)⟩
        have g1' := hk3'.cell g1 (fun h => h)
        obtain ⟨cc0, cj0, cj1, cg0⟩ := hC
        have hC := And.intro cc0 (And.intro cj0 (And.intro cj1 cg0))
        refine ⟨fun _ => hC, ?_⟩
        rw [hev]
        refine anyT_take0 (i := 10) (v := ?_) rfl (by kernel_rfl) (by kernel_rfl) (by kernel_rfl) (by kernel_rfl) (by kernel_rfl) (fun _ _ _ h => h) hC (.inl ⟨by rfl, fun _ _ => ?_⟩) ?_
        rotate_left 1
        · go_simp
          try with_reducible rfl
        simp only [Act.put, List.getElem_toArray, List.getElem_cons_succ, List.getElem_cons_zero, List.setIfInBounds_toArray, List.set_cons_zero, List.set_cons_succ]
        refine anyT_take0 (i := 11) (v := ?_) rfl (by kernel_rfl) (by kernel_rfl) (by kernel_rfl) (by kernel_rfl) (by kernel_rfl) (fun _ _ _ h => h) hC (.inl ⟨by rfl, fun _ _ => ?_⟩) ?_
        rotate_left 1
        · go_simp
          try with_reducible rfl
        simp only [Act.put, List.getElem_toArray, List.getElem_cons_succ, List.getElem_cons_zero, List.setIfInBounds_toArray, List.set_cons_zero, List.set_cons_succ]
        refine (show anyT _ _ _ _ _ _ 0 _ _ _ from ⟨by kernel_rfl, ?_⟩)
        go_wp2
        refine bodyPost_end (results_none (by rfl) _ _ _) (by rfl) ?_
        unfold Added
        exact ⟨⟨_, rfl⟩, (hk0.trans hk3' (fun _ _ h => h)).mono (fun _ _ h => h.elim), ov, ks ++ [((la, ld), .slice lva ld.length lvc)], hcW.keeps hk3' (fun h => h), hownW.keeps hk3', by simp, .inl rfl⟩
      · have hl0 : 0 < data.length := List.length_pos_iff.2 h0
        have hl1 : (0 : Int) < (data.length : Int) := by omega
        rw [if_neg h0]
        go_enter Try.func45, Try.ntmps45
        go_wp2
        refine region_T [] (fun x => x.cell? ⟨c, 0, none⟩ = some (.slice (some ⟨vg, vo, none⟩) (ks.length + 1) vc) ∧ x.cell? ⟨vg, vo + m, none⟩ = some (.int .i64 la) ∧ x.cell? ⟨vg, vo + m + 1, none⟩ = some (.slice lva ld.length lvc) ∧ x.cell? ⟨g, 0, none⟩ = some (.int .i64 at')) (by kernel_rfl) ?_
        have hC : (fun x : World => x.cell? ⟨c, 0, none⟩ = some (.slice (some ⟨vg, vo, none⟩) (ks.length + 1) vc) ∧ x.cell? ⟨vg, vo + m, none⟩ = some (.int .i64 la) ∧ x.cell? ⟨vg, vo + m + 1, none⟩ = some (.slice lva ld.length lvc) ∧ x.cell? ⟨g, 0, none⟩ = some (.int .i64 at')) W.drew := ⟨hcell, j0, j1, g0⟩
        refine anyT_take0 (i := 0) (v := ?_) rfl (by kernel_rfl) (by kernel_rfl) (by kernel_rfl) (by kernel_rfl) (by kernel_rfl) (fun _ _ _ h => h) hC (.inl ⟨by rfl, fun _ _ => ?_⟩) ?_
        rotate_left 1
        · go_simp
          try with_reducible rfl
        simp only [Act.put, List.getElem_toArray, List.getElem_cons_succ, List.getElem_cons_zero, List.setIfInBounds_toArray, List.set_cons_zero, List.set_cons_succ]
        refine anyT_take0 (i := 1) (v := ?_) rfl (by kernel_rfl) (by kernel_rfl) (by kernel_rfl) (by kernel_rfl) (by kernel_rfl) (fun _ _ _ h => h) hC (.inl ⟨by rfl, fun _ _ => ?_⟩) ?_
        rotate_left 1
        · go_simp
          try with_reducible rfl
        simp only [Act.put, List.getElem_toArray, List.getElem_cons_succ, List.getElem_cons_zero, List.setIfInBounds_toArray, List.set_cons_zero, List.set_cons_succ]
        refine anyT_take0 (i := 2) (v := ?_) rfl (by kernel_rfl) (by kernel_rfl) (by kernel_rfl) (by kernel_rfl) (by kernel_rfl) (fun _ _ _ h => h) hC (.inl ⟨by rfl, fun _ _ => ?_⟩) ?_
        rotate_left 1
        · go_simp
          try with_reducible rfl
        simp only [Act.put, List.getElem_toArray, List.getElem_cons_succ, List.getElem_cons_zero, List.setIfInBounds_toArray, List.set_cons_zero, List.set_cons_succ]
        refine anyT_takeC (i := 3) (v := ?_) rfl (by kernel_rfl) (by kernel_rfl) (by kernel_rfl) (by kernel_rfl) (by kernel_rfl) (by kernel_rfl) (fun _ _ _ h => h) hC (.inl ⟨by rfl, fun w hCw => ?_⟩) ?_
        rotate_left 1
        · dsimp only at hCw
          go_simp
          try with_reducible rfl
        simp only [Act.put, List.getElem_toArray, List.getElem_cons_succ, List.getElem_cons_zero, List.setIfInBounds_toArray, List.set_cons_zero, List.set_cons_succ]
        refine anyT_take0 (i := 4) (v := ?_) rfl (by kernel_rfl) (by kernel_rfl) (by kernel_rfl) (by kernel_rfl) (by kernel_rfl) (fun _ _ _ h => h) hC (.inl ⟨by rfl, fun _ _ => ?_⟩) ?_
        rotate_left 1
        · go_simp
          try with_reducible rfl
        simp only [Act.put, List.getElem_toArray, List.getElem_cons_succ, List.getElem_cons_zero, List.setIfInBounds_toArray, List.set_cons_zero, List.set_cons_succ]
        refine anyT_take0 (i := 5) (v := ?_) rfl (by kernel_rfl) (by kernel_rfl) (by kernel_rfl) (by kernel_rfl) (by kernel_rfl) (fun _ _ _ h => h) hC (.inl ⟨by rfl, fun _ _ => ?_⟩) ?_
        rotate_left 1
        · go_simp
          try with_reducible rfl
        simp only [Act.put, List.getElem_toArray, List.getElem_cons_succ, List.getElem_cons_zero, List.setIfInBounds_toArray, List.set_cons_zero, List.set_cons_succ]
        refine anyT_takeC (i := 6) (v := ?_) rfl (by kernel_rfl) (by kernel_rfl) (by kernel_rfl) (by kernel_rfl) (by kernel_rfl) (by kernel_rfl) (fun _ _ _ h => h) hC (.inl ⟨by rfl, fun w hCw => ?_⟩) ?_
        rotate_left 1
        · dsimp only at hCw
          go_simp
          try with_reducible rfl
        simp only [Act.put, List.getElem_toArray, List.getElem_cons_succ, List.getElem_cons_zero, List.setIfInBounds_toArray, List.set_cons_zero, List.set_cons_succ]
        refine anyT_take0 (i := 8) (v := ?_) rfl (by kernel_rfl) (by kernel_rfl) (by kernel_rfl) (by kernel_rfl) (by kernel_rfl) (fun _ _ _ h => h) hC (.inl ⟨by rfl, fun _ _ => ?_⟩) ?_
        rotate_left 1
        · go_simp
          try with_reducible rfl
        simp only [Act.put, List.getElem_toArray, List.getElem_cons_succ, List.getElem_cons_zero, List.setIfInBounds_toArray, List.set_cons_zero, List.set_cons_succ]
        refine anyT_takeC (i := 9) (v := ?_) rfl (by kernel_rfl) (by kernel_rfl) (by kernel_rfl) (by kernel_rfl) (by kernel_rfl) (by kernel_rfl) (fun _ _ _ h => h) hC (.inl ⟨by rfl, fun w hCw => ?_⟩) ?_
        rotate_left 1
        · dsimp only at hCw
          go_simp
          try with_reducible rfl
        simp only [Act.put, List.getElem_toArray, List.getElem_cons_succ, List.getElem_cons_zero, List.setIfInBounds_toArray, List.set_cons_zero, List.set_cons_succ]
        refine anyT_force (i := 7) rfl (by kernel_rfl) (by rfl) ?_
        go_simp
        refine (HEND.out _ hk0.drew).mono ?_
        rintro e w3 ⟨rfl, hk3⟩
        have hk3' : Keeps (fun _ => False) W w3 := (Keeps.refl (fun _ => False) W).drew.trans hk3 (fun _ _ h => h)
        have hC : (fun x : World => x.cell? ⟨c, 0, none⟩ = some (.slice (some ⟨vg, vo, none⟩) (ks.length + 1) vc) ∧ x.cell? ⟨vg, vo + m, none⟩ = some (.int .i64 la) ∧ x.cell? ⟨vg, vo + m + 1, none⟩ = some (.slice lva ld.length lvc) ∧ x.cell? ⟨g, 0, none⟩ = some (.int .i64 at')) w3 := ⟨hk3'.cell hcell (fun h => h), hk3'.cell j0 (fun h => h), hk3'.cell j1 (fun h => h), hk3'.cell g0 (fun h => h)⟩
        have g1' := hk3'.cell g1 (fun h => h)
        obtain ⟨cc0, cj0, cj1, cg0⟩ := hC
        have hC := And.intro cc0 (And.intro cj0 (And.intro cj1 cg0))
        refine ⟨fun _ => hC, ?_⟩
        rw [hev]
        refine anyT_take0 (i := 10) (v := ?_) rfl (by kernel_rfl) (by kernel_rfl) (by kernel_rfl) (by kernel_rfl) (by kernel_rfl) (fun _ _ _ h => h) hC (.inl ⟨by rfl, fun _ _ => ?_⟩) ?_
        rotate_left 1
        · go_simp
          try with_reducible rfl
        simp only [Act.put, List.getElem_toArray, List.getElem_cons_succ, List.getElem_cons_zero, List.setIfInBounds_toArray, List.set_cons_zero, List.set_cons_succ]
        refine anyT_take0 (i := 11) (v := ?_) rfl (by kernel_rfl) (by kernel_rfl) (by kernel_rfl) (by kernel_rfl) (by kernel_rfl) (fun _ _ _ h => h) hC (.inl ⟨by rfl, fun _ _ => ?_⟩) ?_
        rotate_left 1
        · go_simp
          try with_reducible rfl
        simp only [Act.put, List.getElem_toArray, List.getElem_cons_succ, List.getElem_cons_zero, List.setIfInBounds_toArray, List.set_cons_zero, List.set_cons_succ]
        refine (show anyT _ _ _ _ _ _ 0 _ _ _ from ⟨by kernel_rfl, ?_⟩)
        have hkX := (hk3').alloc (.cells #[.int .i64 at', .slice da data.length dc] 68)
        have hownX := hownW.keeps hkX
        have hcX := hcW.keeps hkX (fun h => h)
        have hdX := hdW.keeps hkX (fun _ _ h => h)
        have hsat := sat_pt (w3) (at', data) (.slice da data.length dc) 68
        have hs2 : (w3).heap.size = w3.heap.size := rfl
        rw [hs2] at hsat
        obtain ⟨v5, w5, hrun, ho5, hk5, hpl⟩ := run_append_pt (ty := 43) (p := ((at', data), .slice da data.length dc)) hownX rfl hsat (hdX.mono (fun b hb => ⟨⟨by have := hb.1; omega, hb.2⟩, fun e => by have := (hov b e).1; have := hb.1; omega⟩)) (by first | omega | (simp at h5 ⊢; done) | (simp at h5 ⊢; omega)) (by have := hkX.size; omega)
        have hpl2 : v5.ownBlock = ov.ownBlock ∨ ∃ b, v5.ownBlock = some b ∧ w.heap.size ≤ b := hpl.imp id fun ⟨b, h, h'⟩ => ⟨b, h, Nat.le_trans (Nat.le_trans hk0.size hkX.size) h'⟩
        obtain ⟨va5, n5, vc5, rfl⟩ := ho5.lit
        have HR := Lib.hid hrun
        have hc5 := hcX.keeps hk5 (fun e => by have := (hov c e).1; omega)
        have hcell5 := hc5.one
        have hfz5 := hc5.frozen 0
        have hkZ := ((hk0.trans hkX (fun _ _ h => h)).mono (S' := fun b => b = c ∨ ov.ownBlock = some b) (fun _ _ h => h.elim)).trans hk5 (fun _ _ h => .inr h)
        have ho6 := ho5.setC hcb (x := .slice va5 n5 vc5)
        have hc6 : RowAt (w5.setCell ⟨c, 0, none⟩ (.slice va5 n5 vc5)) c #[.slice va5 n5 vc5] 43 := (hc5.set 0 (.slice va5 n5 vc5)).eq rfl
        have hkY := hkZ.setCell ⟨c, 0, none⟩ (.slice va5 n5 vc5) (.inl (.inl rfl))
        clear hrun
        rw [HVE.out] at HR hc5 hcell5
        go_wp2_with (at_builtin; refine Lib.wpList_append_run _ rfl _ _ _ _ rfl _ _ rfl rfl _ _ HR.out ?_)
        refine bodyPost_end (results_none (by rfl) _ _ _) (by rfl) ?_
        unfold Added
        exact ⟨⟨_, rfl⟩, hkY, _, _, hc6, ho6, by simp, hpl2⟩
end Go.Proofs.Ytiodmhcmciohnaa

/-! flow.merge: one more part among others. -/
namespace Go.Proofs.Ytiodmhcmciohnaa
set_option linter.unusedVariables false
set_option linter.unusedSimpArgs false
open Go.RowKit

def stepF (p : Pt) (st : List Pt × Int) (q : Pt) : List Pt × Int :=
  (addF (if st.2 < q.1 ∧ st.2 < endF p then addF st.1 (st.2, (p.2.drop (st.2 - p.1).toNat).take ((min q.1 (endF p) - p.1).toNat - (st.2 - p.1).toNat)) else st.1) q, max st.2 (endF q))
def endsF (p : Pt) (st : List Pt × Int) : List Pt := if st.2 < endF p then addF st.1 (st.2, p.2.drop (st.2 - p.1).toNat) else st.1
def mergeF (L : List Pt) (p : Pt) : List Pt := endsF p (L.foldl (stepF p) ([], p.1))

/-- Within places. -/
def Bd (r : Pt) : Prop := 0 ≤ r.1 ∧ endF r ≤ 1000000000
theorem Bd.len {r : Pt} (h : Bd r) : r.2.length ≤ 1000000000 ∧ r.1 ≤ 1000000000 := by
  obtain ⟨h1, h2⟩ := h
  unfold endF at h2
  omega
theorem addF_bd (L : List Pt) (q : Pt) (h : ∀ r ∈ L, Bd r) (hq : Bd q) : ∀ r ∈ addF L q, Bd r := by
  rcases List.eq_nil_or_concat L with rfl | ⟨K, l, rfl⟩
  · intro r hr
    unfold addF at hr
    simp only [List.getLast?_nil] at hr
    split at hr
    · cases hr
    · obtain rfl : r = q := by simpa using hr
      exact hq
  · simp only [List.concat_eq_append] at *
    rw [addF_last]
    have hl := h l (by simp)
    intro r hr
    split at hr
    next hle =>
      split at hr
      next hm =>
        rcases List.mem_append.1 hr with hr | hr
        · exact h r (List.mem_append_left _ hr)
        · obtain rfl := List.mem_singleton.1 hr
          refine ⟨hl.1, ?_⟩
          have h2 := hq.2
          have h3 := hl.2
          unfold endF at *
          simp only [List.length_append, List.length_drop]
          omega
      · exact h r hr
    · split at hr
      · exact h r hr
      · rcases List.mem_append.1 hr with hr | hr
        · exact h r hr
        · obtain rfl := List.mem_singleton.1 hr
          exact hq
theorem addF_len (L : List Pt) (q : Pt) : (addF L q).length ≤ L.length + 1 := by
  rcases List.eq_nil_or_concat L with rfl | ⟨K, l, rfl⟩
  · unfold addF
    simp only [List.getLast?_nil]
    split <;> simp
  · simp only [List.concat_eq_append] at *
    rw [addF_last]
    split
    · split <;> simp
    · split <;> simp

/-- What holds in the loop. -/
structure StOk (p : Pt) (i : Nat) (st : List Pt × Int) : Prop where
  bd : ∀ r ∈ st.1, Bd r
  len : st.1.length ≤ 2 * i
  low : p.1 ≤ st.2
  high : st.2 ≤ 1000000000
theorem sub_bd (p q : Pt) (a : Int) (hp : Bd p) (h1 : p.1 ≤ a) (h2 : a < endF p) (n : Nat) : Bd (a, (p.2.drop (a - p.1).toNat).take n) := by
  obtain ⟨h3, h4⟩ := hp
  unfold Bd endF at *
  simp only [List.length_take, List.length_drop]
  omega
theorem stepF_ok (p q : Pt) (i : Nat) (st : List Pt × Int) (hp : Bd p) (hq : Bd q) (h : StOk p i st) : StOk p (i + 1) (stepF p st q) := by
  unfold stepF
  refine ⟨?_, ?_, by have := h.low; show p.1 ≤ max _ _; omega, by have := h.high; have := hq.2; show max _ _ ≤ _; omega⟩
  · refine addF_bd _ _ ?_ hq
    split
    next hc => exact addF_bd _ _ h.bd (sub_bd p q st.2 hp h.low hc.2 _)
    · exact h.bd
  · have h1 := addF_len (if st.2 < q.1 ∧ st.2 < endF p then addF st.1 (st.2, (p.2.drop (st.2 - p.1).toNat).take ((min q.1 (endF p) - p.1).toNat - (st.2 - p.1).toNat)) else st.1) q
    have h2 := h.len
    have h3 : (if st.2 < q.1 ∧ st.2 < endF p then addF st.1 (st.2, (p.2.drop (st.2 - p.1).toNat).take ((min q.1 (endF p) - p.1).toNat - (st.2 - p.1).toNat)) else st.1).length ≤ st.1.length + 1 := by
      split
      · exact addF_len _ _
      · omega
    show (addF _ q).length ≤ _
    omega
theorem fold_ok (p : Pt) (L : List Pt) (hp : Bd p) (hL : ∀ r ∈ L, Bd r) : ∀ i, i ≤ L.length → StOk p i ((L.take i).foldl (stepF p) ([], p.1))
  | 0, _ => ⟨fun r h => by simp at h, by simp, by simp, by simp; exact hp.len.2⟩
  | i + 1, h => by
    rw [List.take_succ_eq_append_getElem (by omega), List.foldl_append]
    exact stepF_ok p _ i _ hp (hL _ (List.getElem_mem _)) (fold_ok p L hp hL i (by omega))
end Go.Proofs.Ytiodmhcmciohnaa

/-! flow.merge: the walk. -/
namespace Go.Proofs.Ytiodmhcmciohnaa
set_option linter.unusedVariables false
set_option linter.unusedSimpArgs false
open Go.RowKit

set_option maxRecDepth 100000 in
set_option maxHeartbeats 4000000 in
theorem merge_any (X : Nat → Prop) (p : Pt) (dv pv : Value) (L : List Pt) (w : World) (hL : TRd w X pv L) (hd : BAt w (fun b => X b ∧ b < w.heap.size) dv p.2) (hX : ∀ b, w.heap.size ≤ b → X b) (hp : Bd p) (hb : ∀ r ∈ L, Bd r) (hl : L.length ≤ 40000) :
    Calls Try.prog 41 #[pv, .agg #[.int .i64 p.1, dv]] w fun e w' => ∃ v, e = .returned v ∧ TRd w' X v (mergeF L p) ∧ Keeps (fun _ => False) w w' := by
  have hmf : ∀ (fn : Fn) (first cap : Array Value) (w : World), (Instr.makeFunc fn first cap).run Try.prog w = .ok (.func fn first cap) w := fun _ _ _ _ => rfl
  have hfold := fold_ok p L hp hb
  obtain ⟨at', data⟩ := p
  obtain ⟨va, vc, rfl, hvc, hvm⟩ := hL.slice
  obtain ⟨da, dc, rfl, hdc, hdm⟩ := hd.slice
  simp only at hd hfold ⊢
  have hk0 := (Keeps.refl (fun _ => False) w).alloc (.cells #[.int .i64 at', .slice da data.length dc] 68)
  have hr0 := RowAt.new w #[.int .i64 at', .slice da data.length dc] 68
  have hsz0 : (w.alloc (.cells #[.int .i64 at', .slice da data.length dc] 68)).heap.size = w.heap.size + 1 := Array.size_push _
  generalize hw1 : w.alloc (.cells #[.int .i64 at', .slice da data.length dc] 68) = W at hk0 hr0 hsz0
  have hk1 := hk0.alloc (.cells #[.slice none 0 0] 43)
  have hr1 := hr0.alloc (.cells #[.slice none 0 0] 43)
  have hrc := RowAt.new W #[.slice none 0 0] 43
  have hsz1 : (W.alloc (.cells #[.slice none 0 0] 43)).heap.size = W.heap.size + 1 := Array.size_push _
  generalize hw2 : W.alloc (.cells #[.slice none 0 0] 43) = W2 at hk1 hr1 hrc hsz1
  obtain ⟨g, hg⟩ : ∃ g, w.heap.size = g := ⟨_, rfl⟩
  rw [hg] at hr1 hsz0
  rw [hsz0] at hrc hsz1
  obtain ⟨g0, g1⟩ := hr1.two
  have HXX := Lib.hid hX
  have HB := Lib.hid hb
  have HF := Lib.hid hfold
  clear hb hfold hr0 hk0 hX
  go_enter Try.func41, Try.ntmps41
  go_wp2
  obtain ⟨c, hcd⟩ : ∃ c, g + 1 = c := ⟨_, rfl⟩
  rw [hcd] at hrc hsz1 ⊢
  go_loopw [7, 15] (fun u7 u15 wr => ∃ (i : Nat) (ov : Value) (qs : List (Pt × Value)) (st : List Pt × Int), i ≤ L.length ∧ u15 = .int .i64 i ∧ u7 = .int .i64 st.2 ∧ st = (L.take i).foldl (stepF (at', data)) ([], at') ∧ RowAt wr c #[ov] 43 ∧ TOwn wr (c + 1) (fun b => b ≠ c ∧ X b) ov qs ∧ qs.map (·.1) = st.1 ∧ Keeps (fun b => b = c) W2 wr) (fun _ u15 _ => L.length - (intOf u15).toNat)
  case atStart => exact ⟨0, .slice none 0 0, [], ([], at'), by omega, rfl, rfl, rfl, hrc, TOwn.nil _ _ _, rfl, Keeps.refl _ _⟩
  case round =>
    obtain ⟨i, ov, qs, ⟨SL, sa⟩, hi, rfl, rfl, hst, hc, ho, hm, hkr⟩ := hrel
    simp only at hm ⊢
    have hkw := hk1.from hkr (fun b e => by omega)
    have hok := HF.out i hi
    rw [← hst] at hok
    have HST := Lib.hid hst
    clear hst
    have hrg := hr1.keeps hkr (fun e => by omega)
    by_cases hlt : i < L.length
    · have hlt' : (i : Int) < (L.length : Int) := by omega
      have hi0 : (0 : Int) ≤ (i : Int) := by omega
      obtain ⟨eb, eo, ec, dvi, he, hdw, k0, k1⟩ := hL.at i hlt
      simp only [Value.slice.injEq] at he
      obtain ⟨rfl, -, rfl⟩ := he
      have hQb := HB.out _ (List.getElem_mem hlt)
      obtain ⟨⟨qa, qd⟩, hQ⟩ : ∃ Q, L[i] = Q := ⟨_, rfl⟩
      rw [hQ] at hdw k0 hQb
      simp only at hdw k0
      obtain ⟨di, ci, rfl, hci, -⟩ := hdw.slice
      have hQl := hQb.len
      have hQ0 := hQb.1
      simp only at hQl hQ0
      have j0 := hkw.cell k0 (fun h => h)
      have j1 := hkw.cell k1 (fun h => h)
      have hkx := hkr.alloc (.cells #[.int .i64 qa, .slice di qd.length ci] 68)
      have hcx := hc.alloc (.cells #[.int .i64 qa, .slice di qd.length ci] 68)
      have hox := ho.keeps ((Keeps.refl (fun _ => False) wr).alloc (.cells #[.int .i64 qa, .slice di qd.length ci] 68))
      have hr9 := RowAt.new wr #[.int .i64 qa, .slice di qd.length ci] 68
      have hrgx := hrg.alloc (.cells #[.int .i64 qa, .slice di qd.length ci] 68)
      generalize hwx : wr.alloc (.cells #[.int .i64 qa, .slice di qd.length ci] 68) = Wx at hkx hcx hox hr9 hrgx
      obtain ⟨g9, hg9⟩ : ∃ g9, wr.heap.size = g9 := ⟨_, rfl⟩
      rw [hg9] at hr9
      have hsr := hkr.size
      have hne9 : ov.ownBlock ≠ some g9 := fun e => by have := (Own.block ho.1 g9 e).2; omega
      obtain ⟨x0, x1⟩ := hr9.two
      obtain ⟨p0, p1⟩ := hrgx.two
      have HBY : Hid (∀ r ∈ qs.map (·.1), Bd r) := Lib.hid (fun r hr => by rw [hm] at hr; exact hok.bd r hr)
      have HLY : Hid (qs.length ≤ 100000) := Lib.hid (by have h1 := hok.len; rw [← hm, List.length_map] at h1; omega)
      have HLQ : Hid (qs.length ≤ 80000) := Lib.hid (by have h1 := hok.len; rw [← hm, List.length_map] at h1; omega)
      have hlo := hok.low
      have hhi := hok.high
      simp only at hlo hhi
      clear hok k0 k1 hQb
      by_cases c1 : sa < qa
      · have hdp := fun W' hk => end_any (at', data) (.slice da data.length dc) W' (BRd.keeps hd.readX hk) (by show _ ≤ at'; have := hp.1; simp only at this; omega) (by show at' ≤ _; have := hp.len; simp only at this; omega) (by show data.length ≤ _; have := hp.len; simp only at this; omega)
        have HDP := Lib.hid hdp
        obtain ⟨ev, hev⟩ : ∃ ev, endF (at', data) = ev := ⟨_, rfl⟩
        have hkwx := hk1.from hkx (fun b e => by omega)
        clear hdp
        by_cases c2 : sa < ev
        · obtain ⟨MN, hMN⟩ : ∃ MN, min qa ev = MN := ⟨_, rfl⟩
          obtain ⟨lo, hloN⟩ : ∃ lo, (sa - at').toNat = lo := ⟨_, rfl⟩
          obtain ⟨hi9, hhiN⟩ : ∃ lo, (MN - at').toNat = lo := ⟨_, rfl⟩
          have hend9 : ev = at' + (data.length : Int) := hev.symm
          have hpl := hp.len
          have hp1 := hp.1
          simp only at hpl hp1
          have hst1 : (stepF (at', data) (SL, sa) (qa, qd)).1 = addF (addF SL (sa, (data.drop lo).take (hi9 - lo))) (qa, qd) := by
            unfold stepF
            rw [hev, if_pos ⟨c1, c2⟩]
            simp only
            rw [hMN, hloN, hhiN]
          have q1 : IntKind.i64.wrap (sa - at') = (lo : Int) := by rw [i64_fit _ (by omega) (by omega)]; omega
          have q2 : IntKind.i64.wrap (MN - at') = (hi9 : Int) := by rw [i64_fit _ (by omega) (by omega)]; omega
          have hlh : (lo : Int) ≤ (hi9 : Int) := by omega
          have hhd : (hi9 : Int) ≤ (dc : Int) := by omega
          have hlt2 : lo < data.length := by omega
          have hpb := sub_bd (at', data) (qa, qd) sa hp hlo (by rw [hev]; exact c2) (hi9 - lo)
          simp only [hloN] at hpb
          obtain ⟨db, do_, dc', e, -, -, -, -⟩ := BAt.get hd (by omega)
          simp only [Value.slice.injEq] at e
          obtain ⟨rfl, -, rfl⟩ := e
          obtain ⟨o2, e2, hdrop, -⟩ := BAt.cut hd lo (by omega)
          have hcn : ¬ dc = lo := by omega
          rw [if_neg hcn] at e2
          simp only [Option.some.injEq, Addr.mk.injEq, and_true, true_and] at e2
          subst e2
          rw [← List.length_drop] at hdrop
          have hpc := BAt.take hdrop (hi9 - lo) (by rw [List.length_drop]; omega)
          have hpcl : ((data.drop lo).take (hi9 - lo)).length = hi9 - lo := by rw [List.length_take, List.length_drop]; omega
          have HEV := Lib.hid hev
          have HMN := Lib.hid hMN
          have HPC := Lib.hid hpc
          have HPB := Lib.hid hpb
          have HPL := Lib.hid hpcl
          have HST1 := Lib.hid hst1
          have hmi : (if ev < qa then ev else qa) = MN := by rw [← hMN]; split <;> omega
          clear hev hMN hpc hpb hdrop hpcl hst1 hend9
          go_wp2_with fail
          refine (HDP.out Wx hkwx).mono ?_
          rintro e Wy ⟨rfl, hky⟩
          rw [HEV.out]
          have hkyy := hkx.trans hky (fun _ _ h => h.elim)
          have hkwy := hkwx.trans hky (fun _ _ h => h)
          have hcy := hcx.keeps hky (fun h => h)
          have hoy := hox.keeps hky
          have hr9y := hr9.keeps hky (fun h => h)
          have hC0 : Wy.cell? ⟨g, 0, none⟩ = some (.int .i64 at') ∧ Wy.cell? ⟨g, 1, none⟩ = some (.slice (some ⟨db, do_, none⟩) data.length dc) ∧ Wy.cell? ⟨g9, 0, none⟩ = some (.int .i64 qa) := ⟨hky.cell p0 (fun h => h), hky.cell p1 (fun h => h), hky.cell x0 (fun h => h)⟩
          clear x0 x1 p0 p1
          go_wp2
          refine region_T [18] (fun x => x.cell? ⟨g, 0, none⟩ = some (.int .i64 at') ∧ x.cell? ⟨g, 1, none⟩ = some (.slice (some ⟨db, do_, none⟩) data.length dc) ∧ x.cell? ⟨g9, 0, none⟩ = some (.int .i64 qa)) (by kernel_rfl) ?_
          have hC : (fun x : World => x.cell? ⟨g, 0, none⟩ = some (.int .i64 at') ∧ x.cell? ⟨g, 1, none⟩ = some (.slice (some ⟨db, do_, none⟩) data.length dc) ∧ x.cell? ⟨g9, 0, none⟩ = some (.int .i64 qa)) Wy.drew := hC0
          refine anyT_take0 (i := 0) (v := ?_) rfl (by kernel_rfl) (by kernel_rfl) (by kernel_rfl) (by kernel_rfl) (by kernel_rfl) (fun _ _ _ h => h) hC (.inl ⟨by rfl, fun _ _ => ?_⟩) ?_
          rotate_left 1
          · go_simp
            try with_reducible rfl
          simp only [Act.put, List.getElem_toArray, List.getElem_cons_succ, List.getElem_cons_zero, List.setIfInBounds_toArray, List.set_cons_zero, List.set_cons_succ]
          refine anyT_take0 (i := 1) (v := ?_) rfl (by kernel_rfl) (by kernel_rfl) (by kernel_rfl) (by kernel_rfl) (by kernel_rfl) (fun _ _ _ h => h) hC (.inl ⟨by rfl, fun _ _ => ?_⟩) ?_
          rotate_left 1
          · go_simp
            try with_reducible rfl
          simp only [Act.put, List.getElem_toArray, List.getElem_cons_succ, List.getElem_cons_zero, List.setIfInBounds_toArray, List.set_cons_zero, List.set_cons_succ]
          refine anyT_take0 (i := 2) (v := ?_) rfl (by kernel_rfl) (by kernel_rfl) (by kernel_rfl) (by kernel_rfl) (by kernel_rfl) (fun _ _ _ h => h) hC (.inl ⟨by rfl, fun _ _ => ?_⟩) ?_
          rotate_left 1
          · go_simp
            try with_reducible rfl
          simp only [Act.put, List.getElem_toArray, List.getElem_cons_succ, List.getElem_cons_zero, List.setIfInBounds_toArray, List.set_cons_zero, List.set_cons_succ]
          refine anyT_takeW (i := 3) (v := ?_) rfl (by kernel_rfl) (by kernel_rfl) (by kernel_rfl) (by kernel_rfl) (by kernel_rfl) (by kernel_rfl) (fun _ _ _ h => h) hC (.inl ⟨by rfl, fun w hCw => ?_⟩) ?_
          rotate_left 1
          · dsimp only at hCw
            go_simp
            try with_reducible rfl
          simp only [Act.put, List.getElem_toArray, List.getElem_cons_succ, List.getElem_cons_zero, List.setIfInBounds_toArray, List.set_cons_zero, List.set_cons_succ]
          refine anyT_take0 (i := 4) (v := ?_) rfl (by kernel_rfl) (by kernel_rfl) (by kernel_rfl) (by kernel_rfl) (by kernel_rfl) (fun _ _ _ h => h) hC (.inl ⟨by rfl, fun _ _ => ?_⟩) ?_
          rotate_left 1
          · go_simp
            try with_reducible rfl
          simp only [Act.put, List.getElem_toArray, List.getElem_cons_succ, List.getElem_cons_zero, List.setIfInBounds_toArray, List.set_cons_zero, List.set_cons_succ]
          refine anyT_take0 (i := 5) (v := ?_) rfl (by kernel_rfl) (by kernel_rfl) (by kernel_rfl) (by kernel_rfl) (by kernel_rfl) (fun _ _ _ h => h) hC (.inl ⟨by rfl, fun _ _ => ?_⟩) ?_
          rotate_left 1
          · go_simp
            try with_reducible rfl
          simp only [Act.put, List.getElem_toArray, List.getElem_cons_succ, List.getElem_cons_zero, List.setIfInBounds_toArray, List.set_cons_zero, List.set_cons_succ]
          refine anyT_takeW (i := 6) (v := ?_) rfl (by kernel_rfl) (by kernel_rfl) (by kernel_rfl) (by kernel_rfl) (by kernel_rfl) (by kernel_rfl) (fun _ _ _ h => h) hC (.inl ⟨by rfl, fun w hCw => ?_⟩) ?_
          rotate_left 1
          · dsimp only at hCw
            go_simp
            try with_reducible rfl
          simp only [Act.put, List.getElem_toArray, List.getElem_cons_succ, List.getElem_cons_zero, List.setIfInBounds_toArray, List.set_cons_zero, List.set_cons_succ]
          refine anyT_take0 (i := 7) (v := ?_) rfl (by kernel_rfl) (by kernel_rfl) (by kernel_rfl) (by kernel_rfl) (by kernel_rfl) (fun _ _ _ h => h) hC (.inl ⟨by rfl, fun _ _ => ?_⟩) ?_
          rotate_left 1
          · go_simp
            try with_reducible rfl
          simp only [Act.put, List.getElem_toArray, List.getElem_cons_succ, List.getElem_cons_zero, List.setIfInBounds_toArray, List.set_cons_zero, List.set_cons_succ]
          refine anyT_take0 (i := 8) (v := ?_) rfl (by kernel_rfl) (by kernel_rfl) (by kernel_rfl) (by kernel_rfl) (by kernel_rfl) (fun _ _ _ h => h) hC (.inl ⟨by rfl, fun _ _ => ?_⟩) ?_
          rotate_left 1
          · go_simp
            try with_reducible rfl
          simp only [Act.put, List.getElem_toArray, List.getElem_cons_succ, List.getElem_cons_zero, List.setIfInBounds_toArray, List.set_cons_zero, List.set_cons_succ]
          refine anyT_takeW (i := 9) (v := ?_) rfl (by kernel_rfl) (by kernel_rfl) (by kernel_rfl) (by kernel_rfl) (by kernel_rfl) (by kernel_rfl) (fun _ _ _ h => h) hC (.inl ⟨by rfl, fun w hCw => ?_⟩) ?_
          rotate_left 1
          · dsimp only at hCw
            go_simp
            try with_reducible rfl
          simp only [Act.put, List.getElem_toArray, List.getElem_cons_succ, List.getElem_cons_zero, List.setIfInBounds_toArray, List.set_cons_zero, List.set_cons_succ]
          refine anyT_takeW (i := 10) (v := ?_) rfl (by kernel_rfl) (by kernel_rfl) (by kernel_rfl) (by kernel_rfl) (by kernel_rfl) (by kernel_rfl) (fun _ _ _ h => h) hC (.inl ⟨by rfl, fun w hCw => ?_⟩) ?_
          rotate_left 1
          · dsimp only at hCw
            go_simp
            try with_reducible rfl
          simp only [Act.put, List.getElem_toArray, List.getElem_cons_succ, List.getElem_cons_zero, List.setIfInBounds_toArray, List.set_cons_zero, List.set_cons_succ]
          refine anyT_take0 (i := 13) (v := ?_) rfl (by kernel_rfl) (by kernel_rfl) (by kernel_rfl) (by kernel_rfl) (by kernel_rfl) (fun _ _ _ h => h) hC (.inl ⟨by rfl, fun _ _ => ?_⟩) ?_
          rotate_left 1
          · go_simp
            try with_reducible rfl
          simp only [Act.put, List.getElem_toArray, List.getElem_cons_succ, List.getElem_cons_zero, List.setIfInBounds_toArray, List.set_cons_zero, List.set_cons_succ]
          refine anyT_takeW (i := 14) (v := ?_) rfl (by kernel_rfl) (by kernel_rfl) (by kernel_rfl) (by kernel_rfl) (by kernel_rfl) (by kernel_rfl) (fun _ _ _ h => h) hC (.inl ⟨by rfl, fun w hCw => ?_⟩) ?_
          rotate_left 1
          · dsimp only at hCw
            go_simp
            try with_reducible rfl
          simp only [Act.put, List.getElem_toArray, List.getElem_cons_succ, List.getElem_cons_zero, List.setIfInBounds_toArray, List.set_cons_zero, List.set_cons_succ]
          refine anyT_force (i := 11) rfl (by kernel_rfl) (by rfl) ?_
          go_simp
          refine (HDP.out Wy.drew hkwy.drew).mono ?_
          rintro e Wu ⟨rfl, hku⟩
          have hku' : Keeps (fun _ => False) Wy Wu := (Keeps.refl (fun _ => False) Wy).drew.trans hku (fun _ _ h => h)
          have hC : (fun x : World => x.cell? ⟨g, 0, none⟩ = some (.int .i64 at') ∧ x.cell? ⟨g, 1, none⟩ = some (.slice (some ⟨db, do_, none⟩) data.length dc) ∧ x.cell? ⟨g9, 0, none⟩ = some (.int .i64 qa)) Wu := ⟨hku'.cell hC0.1 (fun h => h), hku'.cell hC0.2.1 (fun h => h), hku'.cell hC0.2.2 (fun h => h)⟩
          refine ⟨fun _ => hC, ?_⟩
          rw [HEV.out]
          refine anyT_take0 (i := 12) (v := ?_) rfl (by kernel_rfl) (by kernel_rfl) (by kernel_rfl) (by kernel_rfl) (by kernel_rfl) (fun _ _ _ h => h) hC (.inl ⟨by rfl, fun _ _ => ?_⟩) ?_
          rotate_left 1
          · go_simp
            try with_reducible rfl
          simp only [Act.put, List.getElem_toArray, List.getElem_cons_succ, List.getElem_cons_zero, List.setIfInBounds_toArray, List.set_cons_zero, List.set_cons_succ]
          refine anyT_take0 (i := 15) (v := ?_) rfl (by kernel_rfl) (by kernel_rfl) (by kernel_rfl) (by kernel_rfl) (by kernel_rfl) (fun _ _ _ h => h) hC (.inl ⟨by rfl, fun _ _ => ?_⟩) ?_
          rotate_left 1
          · go_simp
            try with_reducible rfl
          simp only [Act.put, List.getElem_toArray, List.getElem_cons_succ, List.getElem_cons_zero, List.setIfInBounds_toArray, List.set_cons_zero, List.set_cons_succ]
          refine anyT_take0 (i := 16) (v := ?_) rfl (by kernel_rfl) (by kernel_rfl) (by kernel_rfl) (by kernel_rfl) (by kernel_rfl) (fun _ _ _ h => h) hC (.inl ⟨by rfl, fun _ _ => ?_⟩) ?_
          rotate_left 1
          · go_simp
            try with_reducible rfl
          simp only [Act.put, List.getElem_toArray, List.getElem_cons_succ, List.getElem_cons_zero, List.setIfInBounds_toArray, List.set_cons_zero, List.set_cons_succ]
          refine anyT_take0 (i := 17) (v := ?_) rfl (by kernel_rfl) (by kernel_rfl) (by kernel_rfl) (by kernel_rfl) (by kernel_rfl) (fun _ _ _ h => h) hC (.inl ⟨by rfl, fun _ _ => ?_⟩) ?_
          rotate_left 1
          · go_simp
            try with_reducible rfl
          simp only [Act.put, List.getElem_toArray, List.getElem_cons_succ, List.getElem_cons_zero, List.setIfInBounds_toArray, List.set_cons_zero, List.set_cons_succ]
          refine anyT_tail (k := 18) (by rfl) (by kernel_rfl) (by simp) rfl rfl (by kernel_rfl) ?_
          have hkyu := hkyy.trans hku' (fun _ _ h => h.elim)
          have hkwu := hkwy.trans hku' (fun _ _ h => h)
          have hcu := hcy.keeps hku' (fun h => h)
          have hou := hoy.keeps hku'
          have hr9u := hr9y.keeps hku' (fun h => h)
          have hsu := hkyu.size
          have hpcu : BAt Wu (fun b => b < c ∧ X b) (.slice (some ⟨db, do_ + lo, none⟩) (hi9 - lo) (dc - lo)) ((data.drop lo).take (hi9 - lo)) := (BAt.keeps HPC.out hkwu (fun _ _ h => h)).mono fun b hb => ⟨by have := hb.2; omega, hb.1⟩
          have hpbd := HPB.out
          have hpbl := hpbd.len
          have hpb0 := hpbd.1
          simp only at hpbl hpb0
          clear hC hC0
          go_wp2_with fail
          refine (add_any X (sa, (data.drop lo).take (hi9 - lo)) (.slice (some ⟨db, do_ + lo, none⟩) (hi9 - lo) (dc - lo)) c (c + 1) ov qs Wu hcu hou (fun b hb => HXX.out b (by omega)) hpcu (by omega) (by omega) (by show _ ≤ sa; omega) (by show sa ≤ _; omega) (by show ((data.drop lo).take (hi9 - lo)).length ≤ _; omega) (fun r hr => by have := HBY.out r.1 (List.mem_map_of_mem hr); have h1 := this.1; have h2 := this.len; omega) (by have := HLY.out; omega)).mono ?_
          rintro e Wv ⟨⟨x, rfl⟩, hkv, ovv, qsv, hcv, hov, hmv, hplv⟩
          have hkyv : Keeps (fun b => b = c) W2 Wv := hkyu.trans hkv (fun b hb e => by
            rcases e with e | e
            · exact e
            · have := (Own.block hou.1 b e).1; omega)
          have hr9v := hr9u.keeps hkv (fun e => by
            rcases e with e | e
            · omega
            · exact hne9 e)
          have hne9v : ovv.ownBlock ≠ some g9 := fun e => by
            rcases hplv with h | ⟨b, h, h'⟩
            · exact hne9 (h ▸ e)
            · rw [h] at e
              have e' : b = g9 := by simpa using e
              have := hr9u.lt
              omega
          rw [hm] at hmv
          have HBY2 : Hid (∀ r ∈ qsv.map (·.1), Bd r) := Lib.hid (fun r hr => by rw [hmv] at hr; exact addF_bd _ _ (fun r hr => HBY.out r (by rw [hm]; exact hr)) hpbd r hr)
          have HLY2 : Hid (qsv.length ≤ 100000) := Lib.hid (by
            have h1 := addF_len SL (sa, (data.drop lo).take (hi9 - lo))
            rw [← hmv, List.length_map, ← hm, List.length_map] at h1
            have := HLQ.out
            omega)
          clear HBY HLY
          have HBY := HBY2
          have HLY := HLY2
          have hst1 := HST1.out
          clear HBY2 HLY2 hpbd hpbl hpb0 hku hku' hplv
          have hsY := (hkyv).size
          have hkwY := hk1.from hkyv (fun b e => by omega)
          obtain ⟨y0, y1⟩ := (hr9v).two
          obtain ⟨z0, z1⟩ := (hr1.keeps hkyv (fun e => by omega)).two
          have hdiY : BAt Wv (fun b => b < c ∧ X b) (.slice di qd.length ci) qd := (BAt.keeps hdw hkwY (fun _ _ h => h)).mono fun b hb => ⟨by have := hb.2; omega, hb.1⟩
          go_wp2_with fail
          refine (add_any X (qa, qd) (.slice di qd.length ci) c (c + 1) ovv qsv Wv hcv hov (fun b hb => HXX.out b (by omega)) hdiY (by omega) (by omega) (by show _ ≤ qa; omega) (by show qa ≤ _; omega) (by show qd.length ≤ _; omega) (fun r hr => by have := HBY.out r.1 (List.mem_map_of_mem hr); have h1 := this.1; have h2 := this.len; omega) (by have := HLY.out; omega)).mono ?_
          rintro e Wz ⟨⟨x, rfl⟩, hkz, ovz, qsz, hcz, hoz, hmz, -⟩
          have hkY2 : Keeps (fun b => b = c) W2 Wz := (hkyv).trans hkz (fun b hb e => by
            rcases e with e | e
            · exact e
            · have := (Own.block (hov).1 b e).1; omega)
          have hr9z := (hr9v).keeps hkz (fun e => by
            rcases e with e | e
            · omega
            · exact hne9v e)
          obtain ⟨y0', y1'⟩ := hr9z.two
          have hkwz := hk1.from hkY2 (fun b e => by omega)
          clear y0 y1 z0 z1
          go_wp2_with fail
          refine (end_any (qa, qd) (.slice di qd.length ci) Wz (BRd.keeps hdw.readX hkwz) (by show _ ≤ qa; omega) (by show qa ≤ _; omega) (by show qd.length ≤ _; omega)).mono ?_
          rintro e Wq ⟨rfl, hkq⟩
          go_wp2
          go_roundw
          case rel => exact ⟨i + 1, ovz, qsz, stepF (at', data) (SL, sa) (qa, qd), by omega, by go_num, by congr 1; show _ = max sa (endF (qa, qd)); first | rfl | (split <;> omega), by rw [List.take_succ_eq_append_getElem hlt, List.foldl_append, ← HST.out, hQ]; rfl, hcz.keeps hkq (fun h => h), hoz.keeps hkq, by rw [hmz, hmv, hst1], hkY2.trans hkq (fun _ _ h => h.elim)⟩
          case measure => simp [intOf]; omega
        · have hst1 : (stepF (at', data) (SL, sa) (qa, qd)).1 = addF SL (qa, qd) := by unfold stepF; rw [hev, if_neg (fun h => c2 h.2)]
          have c2' : ev ≤ sa := by omega
          have HEV := Lib.hid hev
          clear hev
          go_wp2_with fail
          refine (HDP.out Wx hkwx).mono ?_
          rintro e Wy ⟨rfl, hky⟩
          rw [HEV.out]
          have hkyy := hkx.trans hky (fun _ _ h => h.elim)
          have hcy := hcx.keeps hky (fun h => h)
          have hoy := hox.keeps hky
          have hr9y := hr9.keeps hky (fun h => h)
          clear x0 x1 p0 p1
          have hsY := (hkyy).size
          have hkwY := hk1.from hkyy (fun b e => by omega)
          obtain ⟨y0, y1⟩ := (hr9y).two
          obtain ⟨z0, z1⟩ := (hr1.keeps hkyy (fun e => by omega)).two
          have hdiY : BAt Wy (fun b => b < c ∧ X b) (.slice di qd.length ci) qd := (BAt.keeps hdw hkwY (fun _ _ h => h)).mono fun b hb => ⟨by have := hb.2; omega, hb.1⟩
          go_wp2_with fail
          refine (add_any X (qa, qd) (.slice di qd.length ci) c (c + 1) ov qs Wy hcy hoy (fun b hb => HXX.out b (by omega)) hdiY (by omega) (by omega) (by show _ ≤ qa; omega) (by show qa ≤ _; omega) (by show qd.length ≤ _; omega) (fun r hr => by have := HBY.out r.1 (List.mem_map_of_mem hr); have h1 := this.1; have h2 := this.len; omega) (by have := HLY.out; omega)).mono ?_
          rintro e Wz ⟨⟨x, rfl⟩, hkz, ovz, qsz, hcz, hoz, hmz, -⟩
          have hkY2 : Keeps (fun b => b = c) W2 Wz := (hkyy).trans hkz (fun b hb e => by
            rcases e with e | e
            · exact e
            · have := (Own.block (hoy).1 b e).1; omega)
          have hr9z := (hr9y).keeps hkz (fun e => by
            rcases e with e | e
            · omega
            · exact hne9 e)
          obtain ⟨y0', y1'⟩ := hr9z.two
          have hkwz := hk1.from hkY2 (fun b e => by omega)
          clear y0 y1 z0 z1
          go_wp2_with fail
          refine (end_any (qa, qd) (.slice di qd.length ci) Wz (BRd.keeps hdw.readX hkwz) (by show _ ≤ qa; omega) (by show qa ≤ _; omega) (by show qd.length ≤ _; omega)).mono ?_
          rintro e Wq ⟨rfl, hkq⟩
          go_wp2
          go_roundw
          case rel => exact ⟨i + 1, ovz, qsz, stepF (at', data) (SL, sa) (qa, qd), by omega, by go_num, by congr 1; show _ = max sa (endF (qa, qd)); first | rfl | (split <;> omega), by rw [List.take_succ_eq_append_getElem hlt, List.foldl_append, ← HST.out, hQ]; rfl, hcz.keeps hkq (fun h => h), hoz.keeps hkq, by rw [hmz, hm, hst1], hkY2.trans hkq (fun _ _ h => h.elim)⟩
          case measure => simp [intOf]; omega
      · have hst1 : (stepF (at', data) (SL, sa) (qa, qd)).1 = addF SL (qa, qd) := by unfold stepF; rw [if_neg (fun h => c1 h.1)]
        have c1' : qa ≤ sa := by omega
        have hsY := (hkx).size
        have hkwY := hk1.from hkx (fun b e => by omega)
        obtain ⟨y0, y1⟩ := (hr9).two
        obtain ⟨z0, z1⟩ := (hr1.keeps hkx (fun e => by omega)).two
        have hdiY : BAt Wx (fun b => b < c ∧ X b) (.slice di qd.length ci) qd := (BAt.keeps hdw hkwY (fun _ _ h => h)).mono fun b hb => ⟨by have := hb.2; omega, hb.1⟩
        go_wp2_with fail
        refine (add_any X (qa, qd) (.slice di qd.length ci) c (c + 1) ov qs Wx hcx hox (fun b hb => HXX.out b (by omega)) hdiY (by omega) (by omega) (by show _ ≤ qa; omega) (by show qa ≤ _; omega) (by show qd.length ≤ _; omega) (fun r hr => by have := HBY.out r.1 (List.mem_map_of_mem hr); have h1 := this.1; have h2 := this.len; omega) (by have := HLY.out; omega)).mono ?_
        rintro e Wz ⟨⟨x, rfl⟩, hkz, ovz, qsz, hcz, hoz, hmz, -⟩
        have hkY2 : Keeps (fun b => b = c) W2 Wz := (hkx).trans hkz (fun b hb e => by
          rcases e with e | e
          · exact e
          · have := (Own.block (hox).1 b e).1; omega)
        have hr9z := (hr9).keeps hkz (fun e => by
          rcases e with e | e
          · omega
          · exact hne9 e)
        obtain ⟨y0', y1'⟩ := hr9z.two
        have hkwz := hk1.from hkY2 (fun b e => by omega)
        clear y0 y1 z0 z1
        go_wp2_with fail
        refine (end_any (qa, qd) (.slice di qd.length ci) Wz (BRd.keeps hdw.readX hkwz) (by show _ ≤ qa; omega) (by show qa ≤ _; omega) (by show qd.length ≤ _; omega)).mono ?_
        rintro e Wq ⟨rfl, hkq⟩
        go_wp2
        go_roundw
        case rel => exact ⟨i + 1, ovz, qsz, stepF (at', data) (SL, sa) (qa, qd), by omega, by go_num, by congr 1; show _ = max sa (endF (qa, qd)); first | rfl | (split <;> omega), by rw [List.take_succ_eq_append_getElem hlt, List.foldl_append, ← HST.out, hQ]; rfl, hcz.keeps hkq (fun h => h), hoz.keeps hkq, by rw [hmz, hm, hst1], hkY2.trans hkq (fun _ _ h => h.elim)⟩
        case measure => simp [intOf]; omega
    · obtain rfl : i = L.length := by omega
      have hst := HST.out
      rw [List.take_of_length_le (Nat.le_refl _)] at hst
      have hmg : mergeF L (at', data) = endsF (at', data) (SL, sa) := by unfold mergeF; rw [← hst]
      obtain ⟨p0, p1⟩ := hrg.two
      have hdp := fun W' hk => end_any (at', data) (.slice da data.length dc) W' (BRd.keeps hd.readX hk) (by show _ ≤ at'; have := hp.1; simp only at this; omega) (by show at' ≤ _; have := hp.len; simp only at this; omega) (by show data.length ≤ _; have := hp.len; simp only at this; omega)
      have HDP := Lib.hid hdp
      obtain ⟨ev, hev⟩ : ∃ ev, endF (at', data) = ev := ⟨_, rfl⟩
      have HEV := Lib.hid hev
      obtain ⟨ova, ovn, ovc, rfl⟩ := ho.lit
      have hlo := hok.low
      have hhi := hok.high
      simp only at hlo hhi
      have hlen := hok.len
      have hbds := hok.bd
      simp only at hlen hbds
      have HBD := Lib.hid hbds
      clear hst HST hdp hok hbds
      by_cases c2 : sa < ev
      · obtain ⟨lo, hloN⟩ : ∃ lo, (sa - at').toNat = lo := ⟨_, rfl⟩
        have hmg2 : mergeF L (at', data) = addF SL (sa, data.drop lo) := by
          rw [hmg]
          unfold endsF
          simp only
          rw [hev, if_pos c2, hloN]
        have HMG := Lib.hid hmg2
        clear hmg hmg2
        have hend9 : ev = at' + (data.length : Int) := hev.symm
        have hpl := hp.len
        have hp1 := hp.1
        simp only at hpl hp1
        have q1 : IntKind.i64.wrap (sa - at') = (lo : Int) := by rw [i64_fit _ (by omega) (by omega)]; omega
        have hlt2 : lo < data.length := by omega
        have hld : (lo : Int) ≤ (data.length : Int) := by omega
        have hsb := sub_bd (at', data) (at', data) sa hp hlo (by rw [hev]; exact c2) data.length
        simp only [hloN] at hsb
        rw [List.take_of_length_le (by rw [List.length_drop]; omega)] at hsb
        have hpbl := hsb.len
        have hpb0 := hsb.1
        simp only at hpbl hpb0
        obtain ⟨db, do_, dc', e, -, -, -, -⟩ := BAt.get hd (by omega)
        simp only [Value.slice.injEq] at e
        obtain ⟨rfl, -, rfl⟩ := e
        obtain ⟨o2, e2, hdrop, -⟩ := BAt.cut hd lo (by omega)
        have hcn : ¬ dc = lo := by omega
        rw [if_neg hcn] at e2
        simp only [Option.some.injEq, Addr.mk.injEq, and_true, true_and] at e2
        subst e2
        have HDR := Lib.hid hdrop
        clear hev hend9 hdrop hsb
        go_wp2_with fail
        refine (HDP.out wr hkw).mono ?_
        rintro e Wy ⟨rfl, hky⟩
        rw [HEV.out]
        have p0y := hky.cell p0 (fun h => h)
        have p1y := hky.cell p1 (fun h => h)
        have hkwy := hkw.trans hky (fun _ _ h => h)
        have hkyy := hkr.trans hky (fun _ _ h => h.elim)
        have hcy := hc.keeps hky (fun h => h)
        have hoy := ho.keeps hky
        have hsy := hkyy.size
        have hdy : BAt Wy (fun b => b < c ∧ X b) (.slice (some ⟨db, do_ + lo, none⟩) (data.length - lo) (dc - lo)) (data.drop lo) := (BAt.keeps HDR.out hkwy (fun _ _ h => h)).mono fun b hb => ⟨by have := hb.2; omega, hb.1⟩
        go_wp2_with fail
        refine (add_any X (sa, data.drop lo) (.slice (some ⟨db, do_ + lo, none⟩) (data.length - lo) (dc - lo)) c (c + 1) (.slice ova ovn ovc) qs Wy hcy hoy (fun b hb => HXX.out b (by omega)) hdy (by omega) (by omega) (by show _ ≤ sa; omega) (by show sa ≤ _; omega) (by show (data.drop lo).length ≤ _; omega) (fun r hr => by have := HBD.out r.1 (by rw [← hm]; exact List.mem_map_of_mem hr); have h1 := this.1; have h2 := this.len; omega) (by rw [← hm, List.length_map] at hlen; omega)).mono ?_
        rintro e Wz ⟨⟨x, rfl⟩, hkz, ovz, qsz, hcz, hoz, hmz, -⟩
        obtain ⟨oza, ozn, ozc, rfl⟩ := hoz.lit
        have hkwz : Keeps (fun _ => False) w Wz := hkwy.from hkz (fun b e => by
          rcases e with e | e
          · omega
          · have := (Own.block hoy.1 b e).1; omega)
        have hcell := hcz.one
        have hrd := hoz.reads (X := X) (fun b hb => HXX.out b (by omega)) (fun b hb => hb.2)
        rw [hmz, hm] at hrd
        clear p0y p1y
        go_wp2
        go_ret
        exact ⟨_, rfl, by rw [HMG.out]; exact hrd, hkwz⟩
      · have c2' : ev ≤ sa := by omega
        have hmg2 : mergeF L (at', data) = SL := by
          rw [hmg]
          unfold endsF
          simp only
          rw [hev, if_neg c2]
        have HMG := Lib.hid hmg2
        clear hev hmg hmg2
        go_wp2_with fail
        refine (HDP.out wr hkw).mono ?_
        rintro e Wy ⟨rfl, hky⟩
        rw [HEV.out]
        have hcell := (hc.keeps hky (fun h => h)).one
        have hrd := (ho.keeps hky).reads (X := X) (fun b hb => HXX.out b (by omega)) (fun b hb => hb.2)
        rw [hm] at hrd
        go_wp2
        go_ret
        exact ⟨_, rfl, by rw [HMG.out]; exact hrd, hkw.trans hky (fun _ _ h => h)⟩
end Go.Proofs.Ytiodmhcmciohnaa

/-! (*Receiver).with, Room, Next. -/
namespace Go.Proofs.Ytiodmhcmciohnaa
set_option linter.unusedVariables false
set_option linter.unusedSimpArgs false
open Go.RowKit

theorem with_any (X : Nat → Prop) (g : Nat) (p : Pt) (dv bv pv : Value) (room next : Int) (L : List Pt) (w : World) (hr : RowAt w g #[.int .i64 room, .int .i64 next, bv, pv] 66) (hL : TRd w X pv L) (hd : BAt w (fun b => X b ∧ b < w.heap.size) dv p.2) (hX : ∀ b, w.heap.size ≤ b → X b) (hp : Bd p) (hb : ∀ r ∈ L, Bd r) (hl : L.length ≤ 40000) :
    Calls Try.prog 32 #[.pointer (some ⟨g, 0, none⟩), .agg #[.int .i64 p.1, dv]] w fun e w' => ∃ v, e = .returned v ∧ TRd w' X v (mergeF L p) ∧ Keeps (fun _ => False) w w' := by
  obtain ⟨at', data⟩ := p
  obtain ⟨da, dc, rfl, -, -⟩ := hd.slice
  obtain ⟨va, vc, rfl, -, -⟩ := hL.slice
  have hk0 := (Keeps.refl (fun _ => False) w).alloc (.cells #[.int .i64 at', .slice da data.length dc] 68)
  have hr0 := RowAt.new w #[.int .i64 at', .slice da data.length dc] 68
  have hrg := hr.keeps hk0 (fun h => h)
  generalize hw1 : w.alloc (.cells #[.int .i64 at', .slice da data.length dc] 68) = W at hk0 hr0 hrg
  obtain ⟨q, hq⟩ : ∃ q, w.heap.size = q := ⟨_, rfl⟩
  rw [hq] at hr0
  obtain ⟨x0, x1⟩ := hr0.two
  have p3 : W.cell? ⟨g, 3, none⟩ = some (.slice va L.length vc) := hrg.cell 3
  have HM := Lib.hid (fun W' (hk : Keeps (fun _ => False) w W') => merge_any X (at', data) (.slice da data.length dc) (.slice va L.length vc) L W' (hL.keeps hk (fun _ _ h => h)) (hd.keepX hk (fun _ _ h => h)) (fun b hb => hX b (by have := hk.size; omega)) hp hb hl)
  clear hb hX
  go_enter Try.func32, Try.ntmps32
  go_wp2
  refine region_draws_tail 5 (by kernel_rfl) (by kernel_rfl) ?_
  simp only [List.take_succ_cons, List.take_zero, List.drop_succ_cons, List.drop_zero]
  repeat (go_big_quiet_step (fail))
  refine wpQuiet_nil ?_
  rintro _ ⟨nq, rfl⟩
  go_wp2_with (refine (HM.out _ (hk0.drewN nq)).mono ?_; rintro e w3 ⟨v3, rfl, h3, hk3⟩)
  go_ret
  exact ⟨_, rfl, h3, (hk0.drewN nq).trans hk3 (fun _ _ h => h)⟩
theorem room_any (g : Nat) (bv pv : Value) (room next : Int) (n : Nat) (a : Option Addr) (c : Nat) (w : World) (hr : RowAt w g #[.int .i64 room, .int .i64 next, bv, pv] 66) (hb : bv = .slice a n c) (h1 : -1000000000 ≤ room) (h2 : room ≤ 1000000000) (h3 : n ≤ 1000000000) :
    Calls Try.prog 17 #[.pointer (some ⟨g, 0, none⟩)] w fun e w' => e = .returned (.int .i64 (room - n)) ∧ ∃ m, w' = w.drewN m := by
  subst hb
  have q1 := i64_fit (room - (n : Int)) (by omega) (by omega)
  have p0 : w.cell? ⟨g, 0, none⟩ = some (.int .i64 room) := hr.cell 0
  have p2 : w.cell? ⟨g, 2, none⟩ = some (.slice a n c) := hr.cell 2
  go_enter Try.func17, Try.ntmps17
  go_wp2
  go_quiet (fail)
  go_wp2
  go_ret
  exact ⟨rfl, _, rfl⟩
end Go.Proofs.Ytiodmhcmciohnaa

/-! (*Receiver).Put, where nothing waits to be read. -/
namespace Go.Proofs.Ytiodmhcmciohnaa
set_option linter.unusedVariables false
set_option linter.unusedSimpArgs false
open Go.RowKit

/-- A row of parts without its first one. -/
theorem TRd.tail {w : World} {X : Nat → Prop} {b off n c : Nat} {p : Pt} {L : List Pt} (h : TRd w X (.slice (some ⟨b, off, none⟩) n c) (p :: L)) :
    ∃ o2, (if c = 1 then (some ⟨b, off, none⟩ : Option Addr) else some ⟨b, off + 2, none⟩) = some ⟨b, o2, none⟩ ∧ TRd w X (.slice (some ⟨b, o2, none⟩) L.length (c - 1)) L := by
  obtain ⟨qs, h0, ⟨h1, a', c', e, h3, h4, h5⟩, h6⟩ := h
  simp only [Value.slice.injEq, List.length_cons] at e h1 h3
  obtain ⟨e1, hn, rfl⟩ := e
  obtain ⟨⟨q, dv⟩, rs, rfl⟩ : ∃ x r, qs = x :: r := by cases qs with
    | nil => simp at h0
    | cons x r => exact ⟨x, r, rfl⟩
  simp only [List.map_cons, List.cons.injEq] at h0
  obtain ⟨rfl, rfl⟩ := h0
  have hf : flatT ((q, dv) :: rs) = [.int .i64 q.1, dv] ++ flatT rs := rfl
  rw [hf] at h5
  rcases h5 with h5 | ⟨b', off', hb, ha, hc⟩
  · simp at h5
  · rw [← e1] at ha
    simp only [Option.some.injEq, Addr.mk.injEq, and_true] at ha
    obtain ⟨rfl, rfl⟩ := ha
    have hl : (rs.map (·.1)).length = rs.length := List.length_map _
    by_cases h1c : c = 1
    · rw [if_pos h1c]
      have : rs = [] := List.eq_nil_of_length_eq_zero (by rw [hl] at h3; omega)
      subst this
      refine ⟨off, rfl, [], rfl, ⟨rfl, some ⟨b, off, none⟩, c - 1, rfl, Nat.zero_le _, by omega, .inl rfl⟩, fun _ h => by cases h⟩
    · rw [if_neg h1c]
      refine ⟨off + 2, rfl, rs, rfl, ⟨by rw [flatT_length, hl], some ⟨b, off + 2, none⟩, c - 1, by rw [hl], by omega, by omega, .inr ⟨b, off + 2, hb, rfl, fun j u hu => ?_⟩⟩, fun x hx => h6 x (List.mem_cons_of_mem _ hx)⟩
      have := hc (2 + j) u (by
        rw [List.getElem?_append_right (by simp)]
        simpa using hu)
      rwa [← Nat.add_assoc] at this

theorem mergeF_bd (L : List Pt) (p : Pt) (hL : ∀ r ∈ L, Bd r) (hp : Bd p) : ∀ r ∈ mergeF L p, Bd r := by
  have h := fold_ok p L hp hL L.length (Nat.le_refl _)
  rw [List.take_of_length_le (Nat.le_refl _)] at h
  unfold mergeF endsF
  split
  next hc =>
    refine addF_bd _ _ h.bd ?_
    have := sub_bd p p _ hp h.low hc p.2.length
    rwa [List.take_of_length_le (by rw [List.length_drop]; omega)] at this
  · exact h.bd

def lowF (at' next : Int) : Int := if at' < next then next else at'
def highF (at' next room : Int) (n : Nat) : Int := if next + room < at' + n then next + room else at' + n
def partF (at' next room : Int) (data : List UInt8) : Pt :=
  (lowF at' next, (data.drop (lowF at' next - at').toNat).take ((highF at' next room data.length - at').toNat - (lowF at' next - at').toNat))

/-- How such a Put ends. -/
def Put0R (X : Nat → Prop) (g : Nat) (room next a : Int) (d : List UInt8) (rest : List Pt) (w : World) (e : Ending) (w' : World) : Prop :=
      ∃ bv' pv' next' n R, e = .returned (.tuple #[.int .i64 n, .int .i64 0]) ∧ RowAt w' g #[.int .i64 room, .int .i64 next', bv', pv'] 66 ∧ TRd w' X pv' R ∧ Keeps (· = g) w w' ∧
        ((a ≠ next ∧ n = 0 ∧ next' = next ∧ bv' = .slice none 0 0 ∧ R = (a, d) :: rest) ∨ (a = next ∧ n = d.length ∧ next' = next + d.length ∧ BOwn w' w.heap.size bv' d ∧ R = rest))

set_option maxRecDepth 100000 in
set_option maxHeartbeats 4000000 in
theorem put0_any (X : Nat → Prop) (g : Nat) (at' next room : Int) (dv pv : Value) (data : List UInt8) (L : List Pt) (a : Int) (d : List UInt8) (rest : List Pt) (w : World)
    (hr : RowAt w g #[.int .i64 room, .int .i64 next, .slice none 0 0, pv] 66) (hL : TRd w X pv L) (hX : ∀ b, w.heap.size ≤ b → X b) (hXg : ∀ b, X b → b ≠ g) (hd : BRd w dv data) (hb : ∀ r ∈ L, Bd r) (hl : L.length ≤ 40000)
    (h1 : 0 ≤ at') (h2 : at' + data.length ≤ 1000000000) (h3 : 0 ≤ next) (h4 : next ≤ 100000000) (h5 : 1 ≤ room) (h6 : room ≤ 65535) (h7 : lowF at' next < highF at' next room data.length)
    (hM : mergeF L (partF at' next room data) = (a, d) :: rest) (hrest : rest.length < 64) :
    Calls Try.prog 12 #[.pointer (some ⟨g, 0, none⟩), .int .i64 at', dv] w (Put0R X g room next a d rest w) := by
  have hmf : ∀ (fn : Fn) (first cap : Array Value) (w : World), (Instr.makeFunc fn first cap).run Try.prog w = .ok (.func fn first cap) w := fun _ _ _ _ => rfl
  obtain ⟨low, hlow⟩ : ∃ x, lowF at' next = x := ⟨_, rfl⟩
  obtain ⟨high, hhigh⟩ : ∃ x, highF at' next room data.length = x := ⟨_, rfl⟩
  unfold partF at hM
  rw [hlow, hhigh] at hM
  rw [hlow, hhigh] at h7
  have hmx : (if at' < next then next else at') = low := hlow
  have hmn : (if next + room < at' + (data.length : Int) then next + room else at' + (data.length : Int)) = high := hhigh
  obtain ⟨lo, hlo⟩ : ∃ x, (low - at').toNat = x := ⟨_, rfl⟩
  obtain ⟨hi, hhi⟩ : ∃ x, (high - at').toNat = x := ⟨_, rfl⟩
  rw [hlo, hhi] at hM
  have b1 : at' ≤ low ∧ next ≤ low := by rw [← hmx]; split <;> omega
  have b2 : high ≤ next + room ∧ high ≤ at' + data.length := by rw [← hmn]; split <;> omega
  have q1 : IntKind.i64.wrap (low - at') = (lo : Int) := by rw [i64_fit _ (by omega) (by omega)]; omega
  have q2 : IntKind.i64.wrap (high - at') = (hi : Int) := by rw [i64_fit _ (by omega) (by omega)]; omega
  have q3 := i64_fit (at' + (data.length : Int)) (by omega) (by omega)
  have q4 := i64_fit (next + room) (by omega) (by omega)
  have q5 := i64_fit (1000000000 - (data.length : Int)) (by omega) (by omega)
  have hlh : (lo : Int) ≤ (hi : Int) := by omega
  have hhl : hi ≤ data.length := by omega
  have hg0 : ¬ at' < 0 := by omega
  have hg1 : ¬ 1000000000 - (data.length : Int) < at' := by omega
  obtain ⟨db, do_, dc, rfl, hdc, hdm, hdb, -⟩ := BAt.get hd (by omega)
  simp only [maxLen] at hdm
  have hhd : (hi : Int) ≤ (dc : Int) := by omega
  obtain ⟨o2, e2, hdrop, -⟩ := BAt.cut hd lo (by omega)
  have hcn : ¬ dc = lo := by omega
  rw [if_neg hcn] at e2
  simp only [Option.some.injEq, Addr.mk.injEq, and_true, true_and] at e2
  subst e2
  rw [← List.length_drop] at hdrop
  have hpc := BAt.take hdrop (hi - lo) (by rw [List.length_drop]; omega)
  have hpl : ((data.drop lo).take (hi - lo)).length = hi - lo := by rw [List.length_take, List.length_drop]; omega
  obtain ⟨PD, hPD⟩ : ∃ PD, (data.drop lo).take (hi - lo) = PD := ⟨_, rfl⟩
  rw [hPD] at hM hpc hpl
  have hbp : Bd (low, PD) := ⟨by show 0 ≤ low; omega, by show low + (PD.length : Int) ≤ _; omega⟩
  have p0 : w.cell? ⟨g, 0, none⟩ = some (.int .i64 room) := hr.cell 0
  have p1 : w.cell? ⟨g, 1, none⟩ = some (.int .i64 next) := hr.cell 1
  have h7' : ¬ high ≤ low := by omega
  have HPC := Lib.hid hpc
  have HM := Lib.hid hM
  have HB := Lib.hid hb
  have hbd := mergeF_bd L (low, PD) hb hbp (a, d) (by rw [hM]; simp)
  have hdl := hbd.len
  simp only at hdl
  have HPL := Lib.hid hpl
  have hroom := Lib.hid (fun W' (hk : Keeps (fun _ => False) w W') => room_any g (.slice none 0 0) pv room next 0 none 0 W' (hr.keeps hk (fun h => h)) rfl (by omega) (by omega) (by omega))
  clear hpc hM hb hdrop hlow hhigh hPD hlo hhi hpl
  go_enter Try.func12, Try.ntmps12
  go_wp2
  refine region_T [] (fun x => x.cell? ⟨g, 0, none⟩ = some (.int .i64 room) ∧ x.cell? ⟨g, 1, none⟩ = some (.int .i64 next)) (by kernel_rfl) ?_
  have hC : (fun x : World => x.cell? ⟨g, 0, none⟩ = some (.int .i64 room) ∧ x.cell? ⟨g, 1, none⟩ = some (.int .i64 next)) w.drew := ⟨p0, p1⟩
  refine anyT_take0 (i := 0) (v := ?_) rfl (by kernel_rfl) (by kernel_rfl) (by kernel_rfl) (by kernel_rfl) (by kernel_rfl) (fun _ _ _ h => h) hC (.inl ⟨by rfl, fun _ _ => ?_⟩) ?_
  rotate_left 1
  · go_simp
    try with_reducible rfl
  simp only [Act.put, List.getElem_toArray, List.getElem_cons_succ, List.getElem_cons_zero, List.setIfInBounds_toArray, List.set_cons_zero, List.set_cons_succ]
  refine anyT_take0 (i := 1) (v := ?_) rfl (by kernel_rfl) (by kernel_rfl) (by kernel_rfl) (by kernel_rfl) (by kernel_rfl) (fun _ _ _ h => h) hC (.inl ⟨by rfl, fun _ _ => ?_⟩) ?_
  rotate_left 1
  · go_simp
    try with_reducible rfl
  simp only [Act.put, List.getElem_toArray, List.getElem_cons_succ, List.getElem_cons_zero, List.setIfInBounds_toArray, List.set_cons_zero, List.set_cons_succ]
  refine anyT_take0 (i := 2) (v := ?_) rfl (by kernel_rfl) (by kernel_rfl) (by kernel_rfl) (by kernel_rfl) (by kernel_rfl) (fun _ _ _ h => h) hC (.inl ⟨by rfl, fun _ _ => ?_⟩) ?_
  rotate_left 1
  · go_simp
    try with_reducible rfl
  simp only [Act.put, List.getElem_toArray, List.getElem_cons_succ, List.getElem_cons_zero, List.setIfInBounds_toArray, List.set_cons_zero, List.set_cons_succ]
  refine anyT_take0 (i := 3) (v := ?_) rfl (by kernel_rfl) (by kernel_rfl) (by kernel_rfl) (by kernel_rfl) (by kernel_rfl) (fun _ _ _ h => h) hC (.inl ⟨by rfl, fun _ _ => ?_⟩) ?_
  rotate_left 1
  · go_simp
    try with_reducible rfl
  simp only [Act.put, List.getElem_toArray, List.getElem_cons_succ, List.getElem_cons_zero, List.setIfInBounds_toArray, List.set_cons_zero, List.set_cons_succ]
  refine anyT_takeC (i := 4) (v := ?_) rfl (by kernel_rfl) (by kernel_rfl) (by kernel_rfl) (by kernel_rfl) (by kernel_rfl) (by kernel_rfl) (fun _ _ _ h => h) hC (.inl ⟨by rfl, fun w hCw => ?_⟩) ?_
  rotate_left 1
  · dsimp only at hCw
    go_simp
    try with_reducible rfl
  simp only [Act.put, List.getElem_toArray, List.getElem_cons_succ, List.getElem_cons_zero, List.setIfInBounds_toArray, List.set_cons_zero, List.set_cons_succ]
  refine anyT_take0 (i := 5) (v := ?_) rfl (by kernel_rfl) (by kernel_rfl) (by kernel_rfl) (by kernel_rfl) (by kernel_rfl) (fun _ _ _ h => h) hC (.inl ⟨by rfl, fun _ _ => ?_⟩) ?_
  rotate_left 1
  · go_simp
    try with_reducible rfl
  simp only [Act.put, List.getElem_toArray, List.getElem_cons_succ, List.getElem_cons_zero, List.setIfInBounds_toArray, List.set_cons_zero, List.set_cons_succ]
  refine anyT_take0 (i := 6) (v := ?_) rfl (by kernel_rfl) (by kernel_rfl) (by kernel_rfl) (by kernel_rfl) (by kernel_rfl) (fun _ _ _ h => h) hC (.inl ⟨by rfl, fun _ _ => ?_⟩) ?_
  rotate_left 1
  · go_simp
    try with_reducible rfl
  simp only [Act.put, List.getElem_toArray, List.getElem_cons_succ, List.getElem_cons_zero, List.setIfInBounds_toArray, List.set_cons_zero, List.set_cons_succ]
  refine anyT_take0 (i := 7) (v := ?_) rfl (by kernel_rfl) (by kernel_rfl) (by kernel_rfl) (by kernel_rfl) (by kernel_rfl) (fun _ _ _ h => h) hC (.inl ⟨by rfl, fun _ _ => ?_⟩) ?_
  rotate_left 1
  · go_simp
    try with_reducible rfl
  simp only [Act.put, List.getElem_toArray, List.getElem_cons_succ, List.getElem_cons_zero, List.setIfInBounds_toArray, List.set_cons_zero, List.set_cons_succ]
  refine anyT_take0 (i := 8) (v := ?_) rfl (by kernel_rfl) (by kernel_rfl) (by kernel_rfl) (by kernel_rfl) (by kernel_rfl) (fun _ _ _ h => h) hC (.inl ⟨by rfl, fun _ _ => ?_⟩) ?_
  rotate_left 1
  · go_simp
    try with_reducible rfl
  simp only [Act.put, List.getElem_toArray, List.getElem_cons_succ, List.getElem_cons_zero, List.setIfInBounds_toArray, List.set_cons_zero, List.set_cons_succ]
  refine anyT_take0 (i := 9) (v := ?_) rfl (by kernel_rfl) (by kernel_rfl) (by kernel_rfl) (by kernel_rfl) (by kernel_rfl) (fun _ _ _ h => h) hC (.inl ⟨by rfl, fun _ _ => ?_⟩) ?_
  rotate_left 1
  · go_simp
    try with_reducible rfl
  simp only [Act.put, List.getElem_toArray, List.getElem_cons_succ, List.getElem_cons_zero, List.setIfInBounds_toArray, List.set_cons_zero, List.set_cons_succ]
  refine anyT_take0 (i := 10) (v := ?_) rfl (by kernel_rfl) (by kernel_rfl) (by kernel_rfl) (by kernel_rfl) (by kernel_rfl) (fun _ _ _ h => h) hC (.inl ⟨by rfl, fun _ _ => ?_⟩) ?_
  rotate_left 1
  · go_simp
    try with_reducible rfl
  simp only [Act.put, List.getElem_toArray, List.getElem_cons_succ, List.getElem_cons_zero, List.setIfInBounds_toArray, List.set_cons_zero, List.set_cons_succ]
  refine anyT_take0 (i := 11) (v := ?_) rfl (by kernel_rfl) (by kernel_rfl) (by kernel_rfl) (by kernel_rfl) (by kernel_rfl) (fun _ _ _ h => h) hC (.inl ⟨by rfl, fun _ _ => ?_⟩) ?_
  rotate_left 1
  · go_simp
    try with_reducible rfl
  simp only [Act.put, List.getElem_toArray, List.getElem_cons_succ, List.getElem_cons_zero, List.setIfInBounds_toArray, List.set_cons_zero, List.set_cons_succ]
  refine anyT_take0 (i := 12) (v := ?_) rfl (by kernel_rfl) (by kernel_rfl) (by kernel_rfl) (by kernel_rfl) (by kernel_rfl) (fun _ _ _ h => h) hC (.inl ⟨by rfl, fun _ _ => ?_⟩) ?_
  rotate_left 1
  · go_simp
    try with_reducible rfl
  simp only [Act.put, List.getElem_toArray, List.getElem_cons_succ, List.getElem_cons_zero, List.setIfInBounds_toArray, List.set_cons_zero, List.set_cons_succ]
  refine anyT_takeC (i := 13) (v := ?_) rfl (by kernel_rfl) (by kernel_rfl) (by kernel_rfl) (by kernel_rfl) (by kernel_rfl) (by kernel_rfl) (fun _ _ _ h => h) hC (.inl ⟨by rfl, fun w hCw => ?_⟩) ?_
  rotate_left 1
  · dsimp only at hCw
    go_simp
    try with_reducible rfl
  simp only [Act.put, List.getElem_toArray, List.getElem_cons_succ, List.getElem_cons_zero, List.setIfInBounds_toArray, List.set_cons_zero, List.set_cons_succ]
  refine anyT_take0 (i := 14) (v := ?_) rfl (by kernel_rfl) (by kernel_rfl) (by kernel_rfl) (by kernel_rfl) (by kernel_rfl) (fun _ _ _ h => h) hC (.inl ⟨by rfl, fun _ _ => ?_⟩) ?_
  rotate_left 1
  · go_simp
    try with_reducible rfl
  simp only [Act.put, List.getElem_toArray, List.getElem_cons_succ, List.getElem_cons_zero, List.setIfInBounds_toArray, List.set_cons_zero, List.set_cons_succ]
  refine anyT_force (i := 15) rfl (by kernel_rfl) (by rfl) ?_
  go_simp
  refine (hroom.out _ (Keeps.refl (fun _ => False) w).drew).mono ?_
  rintro e w2 ⟨rfl, m2, rfl⟩
  have hk2 : Keeps (fun _ => False) w (w.drew.drewN m2) := (Keeps.refl (fun _ => False) w).drew.drewN m2
  refine ⟨fun _ => ⟨p0, p1⟩, ?_⟩
  have hC : (fun x : World => x.cell? ⟨g, 0, none⟩ = some (.int .i64 room) ∧ x.cell? ⟨g, 1, none⟩ = some (.int .i64 next)) (w.drew.drewN m2) := ⟨p0, p1⟩
  refine anyT_take0 (i := 16) (v := ?_) rfl (by kernel_rfl) (by kernel_rfl) (by kernel_rfl) (by kernel_rfl) (by kernel_rfl) (fun _ _ _ h => h) hC (.inl ⟨by rfl, fun _ _ => ?_⟩) ?_
  rotate_left 1
  · go_simp
    try with_reducible rfl
  simp only [Act.put, List.getElem_toArray, List.getElem_cons_succ, List.getElem_cons_zero, List.setIfInBounds_toArray, List.set_cons_zero, List.set_cons_succ]
  refine anyT_take0 (i := 17) (v := ?_) rfl (by kernel_rfl) (by kernel_rfl) (by kernel_rfl) (by kernel_rfl) (by kernel_rfl) (fun _ _ _ h => h) hC (.inl ⟨by rfl, fun _ _ => ?_⟩) ?_
  rotate_left 1
  · go_simp
    try with_reducible rfl
  simp only [Act.put, List.getElem_toArray, List.getElem_cons_succ, List.getElem_cons_zero, List.setIfInBounds_toArray, List.set_cons_zero, List.set_cons_succ]
  refine anyT_take0 (i := 18) (v := ?_) rfl (by kernel_rfl) (by kernel_rfl) (by kernel_rfl) (by kernel_rfl) (by kernel_rfl) (fun _ _ _ h => h) hC (.inl ⟨by rfl, fun _ _ => ?_⟩) ?_
  rotate_left 1
  · go_simp
    try with_reducible rfl
  simp only [Act.put, List.getElem_toArray, List.getElem_cons_succ, List.getElem_cons_zero, List.setIfInBounds_toArray, List.set_cons_zero, List.set_cons_succ]
  refine anyT_take0 (i := 19) (v := ?_) rfl (by kernel_rfl) (by kernel_rfl) (by kernel_rfl) (by kernel_rfl) (by kernel_rfl) (fun _ _ _ h => h) hC (.inl ⟨by rfl, fun _ _ => ?_⟩) ?_
  rotate_left 1
  · go_simp
    try with_reducible rfl
  simp only [Act.put, List.getElem_toArray, List.getElem_cons_succ, List.getElem_cons_zero, List.setIfInBounds_toArray, List.set_cons_zero, List.set_cons_succ]
  refine (show anyT _ _ _ _ _ _ 0 _ _ _ from ⟨by kernel_rfl, ?_⟩)
  have hr2 := hr.keeps hk2 (fun h => h)
  clear p0 p1 hC hroom
  generalize w.drew.drewN m2 = W2 at *
  go_wp2_with fail
  refine (clone_any _ PD W2 _ (BAt.keeps HPC.out hk2 (fun _ _ h => h)) (by have := HPL.out; omega)).mono ?_
  rintro e W3 ⟨v3, rfl, ho3, hk3⟩
  obtain ⟨a3, c3, rfl, -, -⟩ := BOwn.slice ho3
  have hk23 := hk2.trans hk3 (fun _ _ h => h)
  have hr3 := hr2.keeps hk3 (fun h => h)
  have hd3 : BAt W3 (fun b => X b ∧ b < W3.heap.size) (.slice a3 PD.length c3) PD := (ho3.bat.mono fun b hb => hX b (by have := (ho3.block b hb).1; have := hk2.size; omega)).ltHeap
  have hkX := hk23.alloc (.cells #[.int .i64 low, .slice a3 PD.length c3] 68)
  have hrX := hr3.alloc (.cells #[.int .i64 low, .slice a3 PD.length c3] 68)
  have hrp := RowAt.new W3 #[.int .i64 low, .slice a3 PD.length c3] 68
  have hdX := hd3.keepX ((Keeps.refl (fun _ => False) W3).alloc (.cells #[.int .i64 low, .slice a3 PD.length c3] 68)) (fun _ _ h => h)
  generalize hwx : W3.alloc (.cells #[.int .i64 low, .slice a3 PD.length c3] 68) = WX at hkX hrX hrp hdX
  obtain ⟨gp, hgp⟩ : ∃ gp, W3.heap.size = gp := ⟨_, rfl⟩
  rw [hgp] at hrp
  obtain ⟨x0, x1⟩ := hrp.two
  go_wp2_with fail
  refine (with_any X g (low, PD) (.slice a3 PD.length c3) (.slice none 0 0) pv room next L WX hrX (hL.keeps hkX (fun _ _ h => h)) hdX (fun b hb => hX b (by have := hkX.size; omega)) hbp HB.out hl).mono ?_
  rintro e W4 ⟨v4, rfl, hT4, hk4⟩
  rw [HM.out] at hT4
  have hr4 := hrX.keeps hk4 (fun h => h)
  have hk04 := hkX.trans hk4 (fun _ _ h => h)
  clear x0 x1 hrp hdX hrX hkX hd3 hr3 hk23 ho3 hk3 hr2 hwx hk2
  obtain ⟨mb, mo, mc, dv4, rfl, hd4, m0, m1⟩ := hT4.at 0 (by simp)
  simp only [List.getElem_cons_zero, Nat.zero_mul, Nat.add_zero] at hd4 m0 m1
  obtain ⟨d4a, d4c, rfl, -, -⟩ := hd4.slice
  obtain ⟨o3, ho3, hT5⟩ := hT4.tail
  have hml : ((a, d) :: rest).length = rest.length + 1 := List.length_cons
  have hlr : (1 : Int) ≤ ((rest.length : Int) + 1) := by omega
  have h64 : (rest.length : Int) ≤ 64 := by omega
  obtain ⟨_, ec, eq4, hmc, -⟩ := hT4.slice
  simp only [Value.slice.injEq, true_and] at eq4
  obtain ⟨-, rfl⟩ := eq4
  rw [hml] at hmc
  have hmc1 : 1 ≤ mc := by omega
  have hmc2 : (1 : Int) ≤ (mc : Int) := by omega
  have p1 : W4.cell? ⟨g, 1, none⟩ = some (.int .i64 next) := hr4.cell 1
  have p2 : W4.cell? ⟨g, 2, none⟩ = some (.slice none 0 0) := hr4.cell 2
  have p3 : W4.cell? ⟨g, 3, none⟩ = some pv := hr4.cell 3
  have f1 := hr4.frozen 1
  have f2 := hr4.frozen 2
  have f3 := hr4.frozen 3
  simp only [List.length_cons] at hT4 ⊢
  have hkq := hk04.drewN
  by_cases hax : a = next
  · subst hax
    have hba : (a == a) = true := by simp
    go_wp2
    go_quiet (fail)
    revert nq
    intro n1
    go_wp2
    go_quiet (fail)
    have hk5 : Keeps (· = g) W4 ((W4.drewN (n1 + nq)).setCell ⟨g, 3, none⟩ (.slice (some ⟨mb, o3, none⟩) rest.length (mc - 1))) := ((Keeps.refl (· = g) W4).drewN _).setCell _ _ (.inl rfl)
    have hr5 := (hr4.drewN (n1 + nq)).set 3 (.slice (some ⟨mb, o3, none⟩) rest.length (mc - 1))
    have hd5 := hd4.keepX hk5 (fun b hb => hXg b hb)
    have hT6 := hT5.keeps hk5 (fun b hb => hXg b hb)
    have hs5 := hk5.size
    have hs04 := hk04.size
    obtain ⟨v6, w6, hrun, ho6, hk6, -⟩ := run_append_bytes (ty := 30) (BOwn.nil _ w.heap.size) hd5.readX (by simp only [List.length_nil]; omega) (by omega)
    rw [List.nil_append] at ho6
    obtain ⟨a6, c6, rfl, -, -⟩ := BOwn.slice ho6
    have HR := Lib.hid hrun
    have hk6' : Keeps (fun _ => False) _ w6 := hk6.mono (fun b _ e => by simp [Value.ownBlock] at e)
    have hr6 := hr5.keeps hk6' (fun h => h)
    have p1' : w6.cell? ⟨g, 1, none⟩ = some (.int .i64 a) := hr6.cell 1
    have p2' : w6.cell? ⟨g, 2, none⟩ = some (.slice none 0 0) := hr6.cell 2
    have f1' := hr6.frozen 1
    have f2' := hr6.frozen 2
    have q8 := i64_fit (a + (d.length : Int)) (by omega) (by omega)
    have hr7 : RowAt ((w6.setCell ⟨g, 2, none⟩ (.slice a6 d.length c6)).setCell ⟨g, 1, none⟩ (.int .i64 (a + (d.length : Int)))) g #[.int .i64 room, .int .i64 (a + (d.length : Int)), .slice a6 d.length c6, .slice (some ⟨mb, o3, none⟩) rest.length (mc - 1)] 66 := ((hr6.set 2 _).set 1 _).eq rfl
    have hk67 := ((Keeps.refl (· = g) w6).setCell ⟨g, 2, none⟩ (.slice a6 d.length c6) (.inl rfl)).setCell ⟨g, 1, none⟩ (.int .i64 (a + (d.length : Int))) (.inl rfl)
    have hT7 := (hT6.keeps hk6' (fun _ _ h => h)).keeps hk67 (fun b hb => hXg b hb)
    have hgl := hr.lt
    have ho7 := ho6.keeps hk67 (fun b hb e => by have := (ho6.block b hb).1; omega)
    have hkF : Keeps (· = g) w _ := ((hk04.mono (fun _ _ h => h.elim)).trans hk5 (fun _ _ h => h)).trans (hk6'.mono (S' := (· = g)) (fun _ _ h => h.elim)) (fun _ _ h => h)
    have hkG := hkF.trans hk67 (fun _ _ h => h)
    clear hrun
    go_wp2_with (at_builtin; refine Lib.wpList_append_run _ rfl _ _ _ _ rfl _ _ rfl rfl _ _ HR.out ?_)
    go_ret2
    unfold Put0R
    exact ⟨_, _, _, _, _, rfl, hr7, hT7, hkG, .inr ⟨rfl, rfl, rfl, ho7, rfl⟩⟩
  · have hba : (a == next) = false := beq_eq_false_iff_ne.2 hax
    go_wp2
    go_quiet (fail)
    go_wp2
    have hk5 := ((((Keeps.refl (· = g) W4).drewN nq).setCell ⟨g, 3, none⟩ (.slice (some ⟨mb, mo, none⟩) (rest.length + 1) mc) (.inl rfl)).setCell ⟨g, 2, none⟩ (.slice none 0 0) (.inl rfl)).setCell ⟨g, 1, none⟩ (.int .i64 next) (.inl rfl)
    have hr5 := (((hr4.drewN nq).set 3 (.slice (some ⟨mb, mo, none⟩) (rest.length + 1) mc)).set 2 (.slice none 0 0)).set 1 (.int .i64 next)
    have hT6 := hT4.keeps hk5 (fun b hb => hXg b hb)
    go_ret2
    unfold Put0R
    exact ⟨_, _, _, _, _, rfl, hr5.eq rfl, hT6, (hk04.mono (fun _ _ h => h.elim)).trans hk5 (fun _ _ h => h), .inl ⟨hax, rfl, rfl, rfl, rfl⟩⟩
end Go.Proofs.Ytiodmhcmciohnaa

/-! NewReceiver, NewSender; calls of what is nil. -/
namespace Go.Proofs.Ytiodmhcmciohnaa
set_option linter.unusedVariables false
set_option linter.unusedSimpArgs false
open Go.RowKit

def mayR (room : Int) : Bool := decide (1 ≤ room) && decide (room ≤ 65535)
theorem may_any (room : Int) (w : World) : Calls Try.prog 30 #[.int .i64 room] w fun e w' => e = .returned (.bool (mayR room)) ∧ w = w' := by
  by_cases h1 : 1 ≤ room
  · by_cases h2 : room ≤ 65535
    · go_enter Try.func30, Try.ntmps30
      go_wp2
      go_ret
      exact ⟨by simp [mayR, h1, h2], rfl⟩
    · have h2' : 65535 < room := by omega
      go_enter Try.func30, Try.ntmps30
      go_wp2
      go_ret
      exact ⟨by simp [mayR, h2], rfl⟩
  · have h1' : room < 1 := by omega
    go_enter Try.func30, Try.ntmps30
    go_wp2
    go_ret
    exact ⟨by simp [mayR]; omega, rfl⟩

def NewR (cells : Array Value) (T : TypeId) (room : Int) (w : World) (e : Ending) (w' : World) : Prop :=
  Keeps (fun _ => False) w w' ∧ ((mayR room = false ∧ e = .returned (.tuple #[.pointer none, .int .i64 1])) ∨ (mayR room = true ∧ ∃ g, e = .returned (.tuple #[.pointer (some ⟨g, 0, none⟩), .int .i64 0]) ∧ w.heap.size ≤ g ∧ RowAt w' g cells T))
theorem newr_any (room : Int) (w : World) : Calls Try.prog 9 #[.int .i64 room] w (NewR #[.int .i64 room, .int .i64 0, .slice none 0 0, .slice none 0 0] 66 room w) := by
  obtain ⟨b, hb⟩ : ∃ b, mayR room = b := ⟨_, rfl⟩
  have hm := may_any room w
  rw [hb] at hm
  cases b with
  | false =>
    go_enter Try.func9, Try.ntmps9
    go_wp2_with (refine hm.mono ?_; rintro e w2 ⟨rfl, rfl⟩)
    go_ret2
    unfold NewR
    exact ⟨Keeps.refl _ _, .inl ⟨hb, rfl⟩⟩
  | true =>
    go_enter Try.func9, Try.ntmps9
    go_wp2_with (refine hm.mono ?_; rintro e w2 ⟨rfl, rfl⟩)
    go_ret2
    unfold NewR
    exact ⟨(Keeps.refl _ _).alloc _, .inr ⟨hb, w.heap.size, rfl, Nat.le_refl _, RowAt.new _ _ _⟩⟩
theorem news_any (room : Int) (w : World) : Calls Try.prog 22 #[.int .i64 room] w (NewR #[.int .i64 room, .int .i64 0, .slice none 0 0] 80 room w) := by
  obtain ⟨b, hb⟩ : ∃ b, mayR room = b := ⟨_, rfl⟩
  have hm := may_any room w
  rw [hb] at hm
  cases b with
  | false =>
    go_enter Try.func22, Try.ntmps22
    go_wp2_with (refine hm.mono ?_; rintro e w2 ⟨rfl, rfl⟩)
    go_ret2
    unfold NewR
    exact ⟨Keeps.refl _ _, .inl ⟨hb, rfl⟩⟩
  | true =>
    go_enter Try.func22, Try.ntmps22
    go_wp2_with (refine hm.mono ?_; rintro e w2 ⟨rfl, rfl⟩)
    go_ret2
    unfold NewR
    exact ⟨(Keeps.refl _ _).alloc _, .inr ⟨hb, w.heap.size, rfl, Nat.le_refl _, RowAt.new _ _ _⟩⟩

/-! What is nil. -/
theorem write_nil (v : Value) (w : World) : Calls Try.prog 23 #[.pointer none, v] w fun e w' => e = .returned (.tuple #[.int .i64 0, .int .i64 3]) ∧ w = w' := by
  go_enter Try.func23, Try.ntmps23
  go_wp2
  go_ret2
  exact ⟨rfl, rfl⟩
theorem place_nil (a : Int) (w : World) : Calls Try.prog 40 #[.pointer none, .int .i64 a] w fun e w' => e = .returned (.tuple #[.int .i64 0, .int .i64 3]) ∧ w = w' := by
  go_enter Try.func40, Try.ntmps40
  go_wp2
  go_ret2
  exact ⟨rfl, rfl⟩
theorem peek_nil (a n : Int) (w : World) : Calls Try.prog 25 #[.pointer none, .int .i64 a, .int .i64 n] w fun e w' => e = .returned (.tuple #[.slice none 0 0, .int .i64 3]) ∧ w = w' := by
  go_enter Try.func25, Try.ntmps25
  go_wp2_with (refine (place_nil a w).mono ?_; rintro e w2 ⟨rfl, rfl⟩)
  go_ret2
  exact ⟨rfl, rfl⟩
theorem drop_nil (a : Int) (w : World) : Calls Try.prog 27 #[.pointer none, .int .i64 a] w fun e w' => e = .returned (.tuple #[.int .i64 0, .int .i64 3]) ∧ w = w' := by
  go_enter Try.func27, Try.ntmps27
  go_wp2_with (refine (place_nil a w).mono ?_; rintro e w2 ⟨rfl, rfl⟩)
  go_ret2
  exact ⟨rfl, rfl⟩
theorem ends_nil (w : World) : Calls Try.prog 29 #[.pointer none] w fun e w' => e = .returned (.tuple #[.int .i64 0, .int .i64 0]) ∧ w = w' := by
  go_enter Try.func29, Try.ntmps29
  go_wp2
  go_ret2
  exact ⟨rfl, rfl⟩
theorem put_nil (a : Int) (v : Value) (w : World) : Calls Try.prog 12 #[.pointer none, .int .i64 a, v] w fun e w' => e = .returned (.tuple #[.int .i64 0, .int .i64 3]) ∧ w = w' := by
  go_enter Try.func12, Try.ntmps12
  go_wp2
  go_ret2
  exact ⟨rfl, rfl⟩
theorem read_nil (a : Int) (w : World) : Calls Try.prog 14 #[.pointer none, .int .i64 a] w fun e w' => e = .returned (.tuple #[.slice none 0 0, .int .i64 3]) ∧ w = w' := by
  go_enter Try.func14, Try.ntmps14
  go_wp2
  go_ret2
  exact ⟨rfl, rfl⟩
theorem parts_nil (w : World) : Calls Try.prog 20 #[.pointer none] w fun e w' => e = .returned (.slice none 0 0) ∧ w = w' := by
  go_enter Try.func20, Try.ntmps20
  go_wp2
  go_ret
  exact ⟨rfl, rfl⟩
theorem next_nil (w : World) : Calls Try.prog 16 #[.pointer none] w fun e w' => e = .returned (.int .i64 0) ∧ w = w' := by
  go_enter Try.func16, Try.ntmps16
  go_wp2
  go_ret
  exact ⟨rfl, rfl⟩
theorem room_nil (w : World) : Calls Try.prog 17 #[.pointer none] w fun e w' => e = .returned (.int .i64 0) ∧ w = w' := by
  go_enter Try.func17, Try.ntmps17
  go_wp2
  go_ret
  exact ⟨rfl, rfl⟩
end Go.Proofs.Ytiodmhcmciohnaa

/-! slices.SortFunc of one part. -/
namespace Go.Proofs.Ytiodmhcmciohnaa
set_option linter.unusedVariables false
set_option linter.unusedSimpArgs false
open Go.RowKit

theorem insert_one (a : Option Addr) (c : Nat) (fv : Value) (w : World) : Calls Try.prog 47 #[.slice a 1 c, .int .i64 0, .int .i64 1, fv] w fun e w' => (∃ x, e = .returned x) ∧ w = w' := by
  go_enter Try.func47, Try.ntmps47
  go_wp2
  refine wp_loop_rounds 1 ?_
  rw [rounds_succ]
  go_wp2
  refine bodyPost_end (results_none (by rfl) _ _ _) (by rfl) ?_
  exact ⟨⟨_, rfl⟩, rfl⟩
set_option maxRecDepth 100000 in
set_option maxHeartbeats 4000000 in
theorem len_one (w : World) : Calls Try.prog 43 #[.int .u64 1] w fun e w' => e = .returned (.int .i64 1) ∧ w = w' := by
  go_enter Try.func43, Try.ntmps43
  go_wp2
  go_ret
  exact ⟨by kernel_rfl, rfl⟩
theorem pdq_one (a : Option Addr) (c : Nat) (fv : Value) (w : World) : Calls Try.prog 42 #[.slice a 1 c, .int .i64 0, .int .i64 1, .int .i64 1, fv] w fun e w' => (∃ x, e = .returned x) ∧ w = w' := by
  go_enter Try.func42, Try.ntmps42
  go_wp2
  refine wp_loop_rounds 1 ?_
  rw [rounds_succ]
  go_wp2_with (refine (insert_one a c fv w).mono ?_; rintro e w2 ⟨⟨x, rfl⟩, rfl⟩)
  refine bodyPost_ret (results_none (by rfl) _ _ _) (by rfl) ?_
  exact ⟨⟨_, rfl⟩, rfl⟩
theorem sort_one (a : Option Addr) (c : Nat) (fv : Value) (w : World) : Calls Try.prog 37 #[.slice a 1 c, fv] w fun e w' => (∃ x, e = .returned x) ∧ w = w' := by
  go_enter Try.func37, Try.ntmps37
  go_wp2_with (first | (go_at_call 43; refine (len_one w).mono ?_; rintro e w2 ⟨rfl, rfl⟩) | (go_at_call 42; refine (pdq_one a c fv w).mono ?_; rintro e w3 ⟨⟨x, rfl⟩, rfl⟩))
  refine bodyPost_end (results_none (by rfl) _ _ _) (by rfl) ?_
  exact ⟨⟨_, rfl⟩, rfl⟩
end Go.Proofs.Ytiodmhcmciohnaa

/-! slices.Clone at parts; (*Receiver).Parts$1. -/
namespace Go.Proofs.Ytiodmhcmciohnaa
set_option linter.unusedVariables false
set_option linter.unusedSimpArgs false
open Go.RowKit

set_option maxRecDepth 100000 in
set_option maxHeartbeats 1000000 in
theorem clonept_any (X : Nat → Prop) (v : Value) (L : List Pt) (w : World) (h : TRd w X v L) (h0 : 0 < L.length) (hl : L.length ≤ 100000) :
    Calls Try.prog 35 #[v] w fun e w' => ∃ v' qs, e = .returned v' ∧ qs.map (·.1) = L ∧ TOwn w' w.heap.size (fun b => b < w.heap.size) v' qs ∧ Keeps (fun _ => False) w w' := by
  obtain ⟨qs, rfl, hs, hq⟩ := h
  obtain ⟨a, c, e, -, -⟩ := hs.slice
  obtain ⟨b, off, rfl⟩ : ∃ b off, a = some ⟨b, off, none⟩ := by
    obtain ⟨h1, a', c', e', -, -, h5⟩ := hs
    rw [e] at e'
    simp only [Value.slice.injEq] at e'
    obtain ⟨rfl, -, -⟩ := e'
    rcases h5 with h5 | ⟨b, off, -, h5, -⟩
    · rw [h5, List.length_nil] at h1; omega
    · exact ⟨b, off, h5⟩
  subst e
  rw [List.length_map] at h0 hl hs ⊢
  have hE := fun (a : Option Addr) (n : Nat) (w : World) => Lib.run_eql_slice_nil (P := Try.prog) w 43 _ a n c 0 0 Try.underlying43
  have hk1 := (Keeps.refl (fun _ => False) w).alloc (.cells #[] 68)
  have hown : Own (w.alloc (.cells #[] 68)) w.heap.size 68 2 (.slice (some ⟨w.heap.size, 0, none⟩) 0 0) 0 [] :=
    ⟨rfl, by simp, .inr ⟨w.heap.size, 0, 0, #[], Nat.le_refl _, rfl, Nat.le_refl _, by simp [maxLen], RowAt.new w _ _, by simp, fun j hj => by omega⟩⟩
  obtain ⟨i, hi, hz, hsz, hb⟩ := info_parts info_pt
  have hone : ∀ u ∈ flatT qs, u.oneCell' = true := fun u hu => by
    obtain ⟨q, hq1, hu⟩ := List.mem_flatMap.1 hu
    unfold ptcells at hu
    simp only [List.mem_cons, List.not_mem_nil, or_false] at hu
    rcases hu with rfl | rfl
    · rfl
    · obtain ⟨x, y, e, -, -⟩ := (hq q hq1).slice
      rw [e]; rfl
  obtain ⟨v', w', hrun, ha⟩ := run_append (P := Try.prog) (ty := 43) (tx := 43) Try.underlying43 hi hz hsz hb (by rfl) hown
    (SAt.src Try.underlying43 (hs.keeps hk1 (fun _ _ h => h)) hone (by omega)) (by simp only [maxLen]; omega) (by omega) hk1.size
  have hkw := hk1.from ha.keeps (fun b hb => by simp [Value.ownBlock] at hb; omega)
  have hT : TOwn w' w.heap.size (fun b => b < w.heap.size) v' qs := by
    refine ⟨by have := ha.own; simpa using this, fun q hq1 => ((hq q hq1).keeps hkw (fun _ _ h => h)).mono fun b hb => ⟨hb.2, fun e => ?_⟩⟩
    have := (Own.block ha.own b e).1
    have := hb.2
    omega
  have HR := Lib.hid hrun
  clear hrun hq hone
  go_enter Try.func35, Try.ntmps35
  go_wp2_with (at_builtin; refine Lib.wpList_append_run _ rfl _ _ _ _ rfl _ _ rfl rfl _ _ HR.out ?_)
  go_ret
  exact ⟨_, qs, rfl, rfl, hT, hkw⟩

theorem wp_store_whole2 {P : Program} {o : Oper} {a : Act} {w : World} {K : Act → World → Prop} {Q : Exit → Act → World → Prop} (ty : TypeId) (x y : Operand) (ho : o.op = .store ty x y)
    (g : Nat) (cells : Array Value) (hx : a.eval x = .pointer (some ⟨g, 0, none⟩)) (hy : a.eval y = .agg cells) (t : TypeId) (old : Array Value) (n : Nat) (hg : RowAt w g old t)
    (hn : cells.size = n) (hs : old.size = n) (hi : (P.info? ty).map (·.size) = some n) (h1 : cells.all (·.oneCell') = true)
    (h : ∀ w', RowAt w' g cells t → Keeps (· = g) w w' → K (a.put o.dst undef) w') : o.wp P a w K Q := by
  subst hn
  refine wp_store_mid ty x y ho g 0 cells hx hy (fun j hj => ?_) hi h1 (h _ (hg.setCells_whole hs) (Keeps.setCells (S := (· = g)) (.inl rfl) _ _ _ (Keeps.refl _ _)))
  rw [Nat.zero_add]
  refine ⟨?_, hg.frozen j⟩
  rw [hg.cell, Array.getElem?_eq_getElem (by omega)]
  rfl

set_option maxRecDepth 100000 in
set_option maxHeartbeats 1000000 in
theorem own_any (p : Pt) (dv : Value) (w : World) (hd : BRd w dv p.2) (hl : p.2.length ≤ 140737488355328) :
    Calls Try.prog 36 #[.agg #[.int .i64 p.1, dv]] w fun e w' => ∃ dv', e = .returned (.agg #[.int .i64 p.1, dv']) ∧ BOwn w' w.heap.size dv' p.2 ∧ Keeps (fun _ => False) w w' := by
  obtain ⟨at', data⟩ := p
  obtain ⟨da, dc, rfl, -, -⟩ := hd.slice
  have hk0 := ((Keeps.refl (fun _ => False) w).alloc (.cells #[.int .i64 at', .slice da data.length dc] 68)).alloc (.cells #[.int .i64 0, .slice none 0 0] 68)
  have hr0 := (RowAt.new w #[.int .i64 at', .slice da data.length dc] 68).alloc (.cells #[.int .i64 0, .slice none 0 0] 68)
  have hr1 := RowAt.new (w.alloc (.cells #[.int .i64 at', .slice da data.length dc] 68)) #[.int .i64 0, .slice none 0 0] 68
  have hsz : (w.alloc (.cells #[.int .i64 at', .slice da data.length dc] 68)).heap.size = w.heap.size + 1 := Array.size_push _
  rw [hsz] at hr1
  go_enter Try.func36, Try.ntmps36
  go_wp2
  generalize (w.alloc (.cells #[.int .i64 at', .slice da data.length dc] 68)).alloc (.cells #[.int .i64 0, .slice none 0 0] 68) = W at *
  obtain ⟨g, hg⟩ : ∃ g, w.heap.size = g := ⟨_, rfl⟩
  rw [hg] at hr0 hr1 ⊢
  refine region_T [] (fun x => x.cell? ⟨g, 0, none⟩ = some (.int .i64 at') ∧ x.cell? ⟨g, 1, none⟩ = some (.slice da data.length dc)) (by kernel_rfl) ?_
  have hC : (fun x : World => x.cell? ⟨g, 0, none⟩ = some (.int .i64 at') ∧ x.cell? ⟨g, 1, none⟩ = some (.slice da data.length dc)) W.drew := hr0.drew.two
  refine anyT_take0 (i := 0) (v := ?_) rfl (by kernel_rfl) (by kernel_rfl) (by kernel_rfl) (by kernel_rfl) (by kernel_rfl) (fun _ _ _ h => h) hC (.inl ⟨by rfl, fun _ _ => ?_⟩) ?_
  rotate_left 1
  · go_simp
    try with_reducible rfl
  simp only [Act.put, List.getElem_toArray, List.getElem_cons_succ, List.getElem_cons_zero, List.setIfInBounds_toArray, List.set_cons_zero, List.set_cons_succ]
  refine anyT_takeC (i := 1) (v := ?_) rfl (by kernel_rfl) (by kernel_rfl) (by kernel_rfl) (by kernel_rfl) (by kernel_rfl) (by kernel_rfl) (fun _ _ _ h => h) hC (.inl ⟨by rfl, fun w hCw => ?_⟩) ?_
  rotate_left 1
  · dsimp only at hCw
    go_simp
    try with_reducible rfl
  simp only [Act.put, List.getElem_toArray, List.getElem_cons_succ, List.getElem_cons_zero, List.setIfInBounds_toArray, List.set_cons_zero, List.set_cons_succ]
  refine anyT_take0 (i := 2) (v := ?_) rfl (by kernel_rfl) (by kernel_rfl) (by kernel_rfl) (by kernel_rfl) (by kernel_rfl) (fun _ _ _ h => h) hC (.inl ⟨by rfl, fun _ _ => ?_⟩) ?_
  rotate_left 1
  · go_simp
    try with_reducible rfl
  simp only [Act.put, List.getElem_toArray, List.getElem_cons_succ, List.getElem_cons_zero, List.setIfInBounds_toArray, List.set_cons_zero, List.set_cons_succ]
  refine anyT_takeC (i := 3) (v := ?_) rfl (by kernel_rfl) (by kernel_rfl) (by kernel_rfl) (by kernel_rfl) (by kernel_rfl) (by kernel_rfl) (fun _ _ _ h => h) hC (.inl ⟨by rfl, fun w hCw => ?_⟩) ?_
  rotate_left 1
  · dsimp only at hCw
    go_simp
    try with_reducible rfl
  simp only [Act.put, List.getElem_toArray, List.getElem_cons_succ, List.getElem_cons_zero, List.setIfInBounds_toArray, List.set_cons_zero, List.set_cons_succ]
  refine anyT_force (i := 4) rfl (by kernel_rfl) (by rfl) ?_
  go_simp
  refine (clone_any _ data W.drew _ (hd.keeps hk0.drew) hl).mono ?_
  rintro e W2 ⟨v2, rfl, ho2, hk2⟩
  obtain ⟨a2, c2, rfl, -, -⟩ := BOwn.slice ho2
  have hk2' : Keeps (fun _ => False) W W2 := (Keeps.refl (fun _ => False) W).drew.trans hk2 (fun _ _ h => h)
  have hr02 := hr0.keeps hk2' (fun h => h)
  have hr12 := hr1.keeps hk2' (fun h => h)
  have hC : (fun x : World => x.cell? ⟨g, 0, none⟩ = some (.int .i64 at') ∧ x.cell? ⟨g, 1, none⟩ = some (.slice da data.length dc)) W2 := hr02.two
  refine ⟨fun _ => hC, ?_⟩
  refine anyT_take0 (i := 5) (v := ?_) rfl (by kernel_rfl) (by kernel_rfl) (by kernel_rfl) (by kernel_rfl) (by kernel_rfl) (fun _ _ _ h => h) hC (.inl ⟨by rfl, fun _ _ => ?_⟩) ?_
  rotate_left 1
  · go_simp
    try with_reducible rfl
  simp only [Act.put, List.getElem_toArray, List.getElem_cons_succ, List.getElem_cons_zero, List.setIfInBounds_toArray, List.set_cons_zero, List.set_cons_succ]
  refine anyT_force (i := 6) rfl (by kernel_rfl) (by rfl) ?_
  refine wp_store_whole2 68 (.tmp 2) (.tmp 8) rfl (g + 1) #[.int .i64 at', .slice a2 data.length c2] rfl rfl 68 _ 2 hr12 rfl rfl (by kernel_rfl) (by simp [Value.oneCell']) (fun W3 hr3 hk3 => ?_)
  have hC : (fun x : World => x.cell? ⟨g, 0, none⟩ = some (.int .i64 at') ∧ x.cell? ⟨g, 1, none⟩ = some (.slice da data.length dc)) W3 := (hr02.keeps hk3 (by omega)).two
  refine ⟨fun _ => hC, ?_⟩
  simp only [Act.put, List.getElem_toArray, List.getElem_cons_succ, List.getElem_cons_zero, List.setIfInBounds_toArray, List.set_cons_zero, List.set_cons_succ]
  refine (show anyT _ _ _ _ _ _ 0 _ _ _ from ⟨by kernel_rfl, ?_⟩)
  go_wp2
  have hw1 := hr1.lt
  have hw9 : W.drew.heap.size = W.heap.size := rfl
  have ho3 := (ho2.mono (base' := w.heap.size) (by have := hk0.size; omega)).keeps hk3 (fun b hb e => by have := (ho2.block b hb).1; omega)
  exact bodyPost_ret (results_cell_row (by rfl) _ _ _ _ _ (0, 0) _ (by rfl) hr3 Try.underlying68 rfl (by kernel_rfl)) rfl ⟨_, rfl, by rw [← hg]; exact ho3, (hk0.trans hk2' (fun _ _ h => h)).from hk3 (fun b e => by omega)⟩

set_option maxRecDepth 100000 in
set_option maxHeartbeats 4000000 in
/-- Parts, where there is one. -/
theorem parts_one (X : Nat → Prop) (g : Nat) (room next : Int) (bv pv : Value) (p : Pt) (w : World) (hr : RowAt w g #[.int .i64 room, .int .i64 next, bv, pv] 66) (hT : TRd w X pv [p]) (hp : Bd p) :
    Calls Try.prog 20 #[.pointer (some ⟨g, 0, none⟩)] w fun e w' => ∃ v, e = .returned v ∧ TRd w' (fun b => w.heap.size ≤ b) v [p] ∧ Keeps (fun _ => False) w w' := by
  obtain ⟨pa, pc, rfl, -, -⟩ := hT.slice
  have p3 : w.cell? ⟨g, 3, none⟩ = some (.slice pa 1 pc) := hr.cell 3
  go_enter Try.func20, Try.ntmps20
  go_wp2_with fail
  refine (clonept_any X _ [p] w hT (by simp) (by simp)).mono ?_
  rintro e w2 ⟨v2, qs, rfl, hqs, ho2, hk2⟩
  obtain ⟨dv2, rfl⟩ : ∃ dv, qs = [(p, dv)] := by
    cases qs with
    | nil => simp at hqs
    | cons q r =>
      obtain ⟨q1, q2⟩ := q
      simp only [List.map_cons, List.cons.injEq, List.map_eq_nil_iff] at hqs
      obtain ⟨rfl, rfl⟩ := hqs
      exact ⟨q2, rfl⟩
  obtain ⟨at', data⟩ := p
  obtain ⟨vg, vo, vc, rfl, hgb, hgl, hlv, k0, k1, ⟨kcs, krow⟩, hset⟩ := ho2.last (ks := [])
  obtain ⟨da, dc, rfl, -, -⟩ := hlv.slice
  have hpl := hp.len
  simp only at hpl
  simp only [List.length_nil, Nat.zero_mul, Nat.add_zero, Nat.zero_add] at k0 k1 hset
  go_wp2
  refine wp_loop_rounds 2 ?_
  rw [rounds_succ]
  go_wp2_with fail
  have hkx := hk2.alloc (.cells #[.int .i64 at', .slice da data.length dc] 68)
  have hk2x := (Keeps.refl (fun _ => False) w2).alloc (.cells #[.int .i64 at', .slice da data.length dc] 68)
  refine (own_any (at', data) (.slice da data.length dc) _ (BRd.keeps hlv.low hk2x) (by show data.length ≤ _; omega)).mono ?_
  rintro e w3 ⟨dv3, rfl, ho3, hk3⟩
  obtain ⟨d3a, d3c, rfl, -, -⟩ := BOwn.slice ho3
  have hk23 := hk2x.trans hk3 (fun _ _ h => h)
  have hk03 := hkx.trans hk3 (fun _ _ h => h)
  have hrow3 := krow.keeps hk23 (fun h => h)
  have j0 := hk23.cell k0 (fun h => h)
  have j1 := hk23.cell k1 (fun h => h)
  have f0 := hrow3.frozen vo
  have f1 := hrow3.frozen (vo + 1)
  have hc0 : kcs[vo]? = some (.int .i64 at') := by rw [← hrow3.cell]; exact j0
  have hc1 : kcs[vo + 1]? = some (.slice da data.length dc) := by rw [← hrow3.cell]; exact j1
  have hl0 : vo < kcs.size := (Array.getElem?_eq_some_iff.1 hc0).1
  have hl1 : vo + 1 < kcs.size := (Array.getElem?_eq_some_iff.1 hc1).1
  have hrow4 := (hrow3.set vo (.int .i64 at')).set (vo + 1) (.slice d3a data.length d3c)
  have hks := ((Keeps.refl (· = vg) w3).setCell ⟨vg, vo, none⟩ (.int .i64 at') (.inl rfl)).setCell ⟨vg, vo + 1, none⟩ (.slice d3a data.length d3c) (.inl rfl)
  have hsx := hkx.size
  have hs3 := hk3.size
  have hlt2 : w2.heap.size ≤ (w2.alloc (.cells #[.int .i64 at', .slice da data.length dc] 68)).heap.size := hk2x.size
  have ho4 := ho3.keeps hks (fun b hb e => by have := (ho3.block b hb).1; omega)
  have hkF := hk03.from hks (fun b e => by omega)
  obtain ⟨_, ec, eq4, hvc, hvm⟩ := SAt.slice ho2.1.sat
  simp only [Value.slice.injEq] at eq4
  obtain ⟨-, -, rfl⟩ := eq4
  have hTR : TRd ((w3.setCell ⟨vg, vo, none⟩ (.int .i64 at')).setCell ⟨vg, vo + 1, none⟩ (.slice d3a data.length d3c)) (fun b => w.heap.size ≤ b) (.slice (some ⟨vg, vo, none⟩) 1 vc) [(at', data)] := by
    refine ⟨[((at', data), .slice d3a data.length d3c)], rfl, ⟨rfl, some ⟨vg, vo, none⟩, vc, rfl, by simpa using hvc, hvm, .inr ⟨vg, vo, ⟨hgb, hrow4.lt⟩, rfl, fun j u hu => ?_⟩⟩, fun q hq => ?_⟩
    · rw [hrow4.cell]
      have e : flatT [((at', data), (.slice d3a data.length d3c : Value))] = [.int .i64 at', .slice d3a data.length d3c] := by simp [flatT, ptcells]
      rw [e] at hu
      match j, hu with
      | 0, hu =>
        change ((kcs.setIfInBounds vo (.int .i64 at')).setIfInBounds (vo + 1) (.slice d3a data.length d3c))[vo]? = some u
        rw [Array.getElem?_setIfInBounds_ne (by omega), Array.getElem?_setIfInBounds_self_of_lt hl0]
        simpa using hu
      | 1, hu =>
        rw [Array.getElem?_setIfInBounds_self_of_lt (by simpa using hl1)]
        simpa using hu
    · obtain rfl := List.mem_singleton.1 hq
      exact (ho4.ge.mono fun b hb => by show w.heap.size ≤ b; omega).ltHeap
  clear hrow4 hset krow k0 k1 hc0 hc1
  go_wp2
  rw [rounds_succ]
  go_wp2_with (refine (sort_one _ _ _ _).mono ?_; rintro e w9 ⟨⟨x, rfl⟩, rfl⟩)
  go_ret
  exact ⟨_, rfl, hTR, hkF⟩
end Go.Proofs.Ytiodmhcmciohnaa

/-! slices.Delete of all bytes. -/
namespace Go.Proofs.Ytiodmhcmciohnaa
set_option linter.unusedVariables false
set_option linter.unusedSimpArgs false
open Go.RowKit

set_option maxRecDepth 100000 in
set_option maxHeartbeats 1000000 in
theorem delall_any (g off c base : Nat) (l : List UInt8) (w : World) (hB : BOwn w base (.slice (some ⟨g, off, none⟩) l.length c) l) (h0 : 0 < l.length) (hl : l.length ≤ 1000000) :
    Calls Try.prog 34 #[.slice (some ⟨g, off, none⟩) l.length c, .int .i64 0, .int .i64 l.length] w fun e w' => e = .returned (.slice (some ⟨g, off, none⟩) 0 c) ∧ Keeps (· = g) w w' ∧ BOwn w' base (.slice (some ⟨g, off, none⟩) 0 c) [] := by
  obtain ⟨_, _, e, hlc, hcm⟩ := BOwn.slice hB
  simp only [Value.slice.injEq] at e
  obtain ⟨-, -, rfl⟩ := e
  simp only [maxLen] at hcm
  have g1 : (0 : Int) < (l.length : Int) := by omega
  have g2 : (l.length : Int) ≤ (c : Int) := by omega
  have g3 : ¬ (0 : Int) = (l.length : Int) := by omega
  have g4 : ((0 : Int) == (l.length : Int)) = false := beq_eq_false_iff_ne.2 (by omega)
  obtain ⟨i, hi, hz, hs, hb⟩ := info_parts info_u8
  have hc0 : ¬ c = 0 := by omega
  have hap : ∀ (a : Option Addr) (n : Nat) (w : World), n ≤ maxLen → (Builtin.append_ #[30, 30] 30 #[.slice (some ⟨g, off, none⟩) 0 c, .slice a 0 n]).run Try.prog w = .ok (.slice (some ⟨g, off, none⟩) 0 c) w := fun a n w hn =>
    run_append_nothing (P := Try.prog) w 30 30 30 5 i Try.underlying30 hi (some ⟨g, off, none⟩) 0 c (Nat.zero_le _) (.slice a 0 n) (SAt.src (p := fun _ => True) Try.underlying30 (by rw [hs]; exact SAt.empty w _ 1 a n hn) (by simp) (by omega))
  have hcl : ∀ (m : Nat), (Builtin.clear_ #[30] 0 #[.slice (some ⟨g, off, none⟩) l.length c]).run Try.prog (w.drewN m) = .ok (.tuple #[]) ((w.drewN m).setCells g off (List.replicate l.length (.int .u8 0))) := fun m =>
    Lib.run_clear_slice (P := Try.prog) (w.drewN m) 30 5 0 (.int .u8 0) Try.underlying30 (fun w => by simp [zeroValue, typeInfo, hi, hz]) rfl rfl g off l.length c h0
      (fun j hj => by
        have := (hB.at j hj).1
        show (w.cell? _).isSome = true
        rw [this]; rfl) (fun j hj => (hB.at j hj).2.1)
  have HAP := Lib.hid hap
  clear hap
  go_enter Try.func34, Try.ntmps34
  go_wp2
  refine region_draws_tail 6 (by kernel_rfl) (by kernel_rfl) ?_
  simp only [List.take_succ_cons, List.take_zero, List.drop_succ_cons, List.drop_zero]
  repeat (go_big_quiet_step (fail))
  refine wpQuiet_nil ?_
  rintro _ ⟨nq, rfl⟩
  go_wp2_with (at_builtin; refine Lib.wpList_append_run _ rfl _ _ _ _ rfl _ _ rfl rfl _ _ (HAP.out _ _ _ (by simp only [maxLen]; omega)) ?_)
  all_goals
    go_ret
    have hkf : Keeps (· = g) w ((w.drewN nq).setCells g off (List.replicate l.length (.int .u8 0))) := Keeps.setCells (S := (· = g)) (.inl rfl) _ _ _ ((Keeps.refl (· = g) w).drewN nq)
    refine ⟨rfl, hkf, ?_⟩
    obtain ⟨h1, h2, h3⟩ := hB
    rcases h3 with ⟨e, -, -⟩ | ⟨g', off', c', cs, hb', e, h4, h5, hr, h6, h7⟩
    · simp at e
    · simp only [Value.slice.injEq, Option.some.injEq, Addr.mk.injEq, and_true] at e
      obtain ⟨⟨rfl, rfl⟩, -, rfl⟩ := e
      obtain ⟨cs', r1, r2, r3, r4⟩ := RowAt.setCells (List.replicate l.length (Value.int .u8 0)) off (w.drewN nq) cs (hr.drewN nq) (by rw [List.length_replicate]; omega)
      exact ⟨rfl, (fun _ h => by cases h), .inr ⟨g, off, _, cs', hb', rfl, Nat.zero_le _, (by omega), r1, (by rw [r2]; omega), fun j hj => by simp at hj⟩⟩
end Go.Proofs.Ytiodmhcmciohnaa

/-! (*Receiver).Read, of all that waits. -/
namespace Go.Proofs.Ytiodmhcmciohnaa
set_option linter.unusedVariables false
set_option linter.unusedSimpArgs false
open Go.RowKit

set_option maxRecDepth 100000 in
set_option maxHeartbeats 1000000 in
theorem readall_any (g h off c base : Nat) (room next n : Int) (pv : Value) (l : List UInt8) (w : World) (hr : RowAt w g #[.int .i64 room, .int .i64 next, .slice (some ⟨h, off, none⟩) l.length c, pv] 66)
    (hB : BOwn w base (.slice (some ⟨h, off, none⟩) l.length c) l) (h0 : 0 < l.length) (hl : l.length ≤ 1000000) (hn : (l.length : Int) ≤ n) :
    Calls Try.prog 14 #[.pointer (some ⟨g, 0, none⟩), .int .i64 n] w fun e w' => ∃ v, e = .returned (.tuple #[v, .int .i64 0]) ∧ BOwn w' w.heap.size v l ∧
      RowAt w' g #[.int .i64 room, .int .i64 next, .slice (some ⟨h, off, none⟩) 0 c, pv] 66 ∧ Keeps (fun b => b = g ∨ b = h) w w' := by
  obtain ⟨_, _, e, hlc, hcm⟩ := BOwn.slice hB
  simp only [Value.slice.injEq] at e
  obtain ⟨-, -, rfl⟩ := e
  simp only [maxLen] at hcm
  have hgh : h ≠ g := fun e => hB.apart hr (by decide) (by rw [← e]; rfl)
  have hhl : h < w.heap.size := (hB.block h rfl).2
  have hgl := hr.lt
  have p2 : w.cell? ⟨g, 2, none⟩ = some (.slice (some ⟨h, off, none⟩) l.length c) := hr.cell 2
  have hn0 : ¬ n < 0 := by omega
  have hmn : (if (l.length : Int) < n then (l.length : Int) else n) = (l.length : Int) := by split <;> omega
  have g2 : (l.length : Int) ≤ (c : Int) := by omega
  have hb9 : BAt w (fun b => b = h) (.slice (some ⟨h, off, none⟩) l.length c) l := hB.bat.mono fun b hb => by simpa [Value.ownBlock] using hb.symm
  go_enter Try.func14, Try.ntmps14
  go_wp2_with fail
  refine (clone_any _ l w _ hb9 (by omega)).mono ?_
  rintro e w2 ⟨v2, rfl, ho2, hk2⟩
  obtain ⟨a2, c2, rfl, -, -⟩ := BOwn.slice ho2
  have hr2 := hr.keeps hk2 (fun h => h)
  have hB2 := hB.keeps hk2 (fun _ _ h => h)
  have p2' := hk2.cell p2 (fun h => h)
  go_wp2_with fail
  refine (delall_any h off c base l w2 hB2 h0 hl).mono ?_
  rintro e w3 ⟨rfl, hk3, -⟩
  have hr3 := hr2.keeps hk3 (fun e => hgh e.symm)
  have p23 : w3.cell? ⟨g, 2, none⟩ = some (.slice (some ⟨h, off, none⟩) l.length c) := hr3.cell 2
  have f23 := hr3.frozen 2
  have hr4 : RowAt (w3.setCell ⟨g, 2, none⟩ (.slice (some ⟨h, off, none⟩) 0 c)) g #[.int .i64 room, .int .i64 next, .slice (some ⟨h, off, none⟩) 0 c, pv] 66 := (hr3.set 2 _).eq rfl
  have hk34 := (Keeps.refl (· = g) w3).setCell ⟨g, 2, none⟩ (.slice (some ⟨h, off, none⟩) 0 c) (.inl rfl)
  have ho4 := (ho2.keeps hk3 (fun b hb e => by have := (ho2.block b hb).1; omega)).keeps hk34 (fun b hb e => by have := (ho2.block b hb).1; omega)
  have hkF : Keeps (fun b => b = g ∨ b = h) w (w3.setCell ⟨g, 2, none⟩ (.slice (some ⟨h, off, none⟩) 0 c)) :=
    ((hk2.mono (fun _ _ h => h.elim)).trans hk3 (fun b _ e => .inr e)).trans hk34 (fun b _ e => .inl e)
  go_wp2
  go_ret2
  exact ⟨_, rfl, ho4, hr4, hkF⟩
end Go.Proofs.Ytiodmhcmciohnaa

/-! A sender's calls in general: Write, Ends. -/
namespace Go.Proofs.Ytiodmhcmciohnaa
set_option linter.unusedVariables false
set_option linter.unusedSimpArgs false
open Go.RowKit

/-- Bytes that are cut to their first, with that capacity. -/
theorem BAt.cutTo {w : World} {p : Nat → Prop} {a : Option Addr} {c : Nat} {l : List UInt8} (h : BAt w p (.slice a l.length c) l) (n : Nat) (hn : n ≤ l.length) : BAt w p (.slice a n n) (l.take n) := by
  have h2 := BAt.take h n hn
  have : n ≤ maxLen := by
    obtain ⟨a', c', e, h1, h2⟩ := BAt.slice h
    simp only [Value.slice.injEq, true_and] at e
    omega
  exact BAt.recap h2 n (Nat.le_refl _) this

set_option maxRecDepth 100000 in
set_option maxHeartbeats 1000000 in
theorem write_any (g B n : Nat) (room first : Int) (bv dv : Value) (l data : List UInt8) (w : World) (hr : RowAt w g #[.int .i64 room, .int .i64 first, bv] 80) (ho : BOwn w B bv l) (hd : BRd w dv data) (hB : B ≤ w.heap.size)
    (h2 : room ≤ 65535) (h0 : (l.length : Int) ≤ room) (hl : data.length ≤ 1000000) (hn : (n : Int) = if room - (l.length : Int) < (data.length : Int) then room - (l.length : Int) else (data.length : Int)) :
    Calls Try.prog 23 #[.pointer (some ⟨g, 0, none⟩), dv] w fun e w' => e = .returned (.tuple #[.int .i64 n, .int .i64 0]) ∧ Keeps (fun b => b = g ∨ bv.ownBlock = some b) w w' ∧
      ∃ bv', RowAt w' g #[.int .i64 room, .int .i64 first, bv'] 80 ∧ BOwn w' B bv' (l ++ data.take n) ∧ (bv'.ownBlock = bv.ownBlock ∨ ∃ b, bv'.ownBlock = some b ∧ w.heap.size ≤ b) := by
  obtain ⟨da, dc, rfl, hdc, hdm⟩ := BAt.slice hd
  obtain ⟨ba, bc, rfl, -, -⟩ := BOwn.slice ho
  simp only [maxLen] at hdm
  have hnl : n ≤ data.length := by split at hn <;> omega
  have hmn : (if room - (l.length : Int) < (data.length : Int) then room - (l.length : Int) else (data.length : Int)) = (n : Int) := hn.symm
  have p0 : w.cell? ⟨g, 0, none⟩ = some (.int .i64 room) := hr.cell 0
  have p2 : w.cell? ⟨g, 2, none⟩ = some (.slice ba l.length bc) := hr.cell 2
  have q1 := i64_fit (room - (l.length : Int)) (by omega) (by omega)
  have hnc : (n : Int) ≤ (dc : Int) := by omega
  have htl : (data.take n).length = n := by rw [List.length_take]; omega
  have htk : BRd w (.slice da n n) (data.take n) := BAt.cutTo hd n hnl
  have hgb : (Value.slice ba l.length bc).ownBlock ≠ some g := ho.apart hr (by decide)
  have HN := Lib.hid hn
  clear hn
  obtain ⟨M, hM⟩ : ∃ M, l ++ data.take n = M := ⟨_, rfl⟩
  rw [hM]
  have HM := Lib.hid hM
  clear hM
  go_enter Try.func23, Try.ntmps23
  go_wp2
  go_quiet (fail)
  go_wp2
  have hkq : Keeps (fun _ => False) w (w.drewN nq) := (Keeps.refl _ _).drewN nq
  have hrq := hr.keeps hkq (fun h => h)
  have hoq := ho.keeps hkq (fun _ _ h => h)
  generalize w.drewN nq = W at *
  obtain ⟨v5, w5, hrun, ho5, hk5, hpl5⟩ := run_append_bytes (ty := 30) (BOwn.keeps hoq (Keeps.refl (fun _ => False) W).drew (fun _ _ h => h)) (htk.keeps hkq.drew) (by omega) (by have := hkq.size; exact Nat.le_trans hB this)
  rw [HM.out] at ho5
  have HR := Lib.hid hrun
  have hk5' : Keeps (fun b => (Value.slice ba l.length bc).ownBlock = some b) W w5 := (Keeps.refl _ W).drew.trans hk5 (fun _ _ h => h)
  have hr5 := hrq.keeps hk5' hgb
  have p2' : w5.cell? ⟨g, 2, none⟩ = some (.slice ba l.length bc) := hr5.cell 2
  have f2' := hr5.frozen 2
  obtain ⟨a5, c5, rfl, -, -⟩ := BOwn.slice ho5
  clear hrun
  refine region_T [12] (fun x => x.cell? ⟨g, 2, none⟩ = some (.slice ba l.length bc)) (by kernel_rfl) ?_
  have hC : (fun x : World => x.cell? ⟨g, 2, none⟩ = some (.slice ba l.length bc)) W.drew := hrq.cell 2
  refine anyT_take0 (i := 0) (v := ?_) rfl (by kernel_rfl) (by kernel_rfl) (by kernel_rfl) (by kernel_rfl) (by kernel_rfl) (fun _ _ _ h => h) hC (.inl ⟨by rfl, fun _ _ => ?_⟩) ?_
  rotate_left 1
  · go_simp
    try with_reducible rfl
  simp only [Act.put, List.getElem_toArray, List.getElem_cons_succ, List.getElem_cons_zero, List.setIfInBounds_toArray, List.set_cons_zero, List.set_cons_succ]
  refine anyT_take0 (i := 1) (v := ?_) rfl (by kernel_rfl) (by kernel_rfl) (by kernel_rfl) (by kernel_rfl) (by kernel_rfl) (fun _ _ _ h => h) hC (.inl ⟨by rfl, fun _ _ => ?_⟩) ?_
  rotate_left 1
  · go_simp
    try with_reducible rfl
  simp only [Act.put, List.getElem_toArray, List.getElem_cons_succ, List.getElem_cons_zero, List.setIfInBounds_toArray, List.set_cons_zero, List.set_cons_succ]
  refine anyT_take0 (i := 2) (v := ?_) rfl (by kernel_rfl) (by kernel_rfl) (by kernel_rfl) (by kernel_rfl) (by kernel_rfl) (fun _ _ _ h => h) hC (.inl ⟨by rfl, fun _ _ => ?_⟩) ?_
  rotate_left 1
  · go_simp
    try with_reducible rfl
  simp only [Act.put, List.getElem_toArray, List.getElem_cons_succ, List.getElem_cons_zero, List.setIfInBounds_toArray, List.set_cons_zero, List.set_cons_succ]
  refine anyT_take0 (i := 3) (v := ?_) rfl (by kernel_rfl) (by kernel_rfl) (by kernel_rfl) (by kernel_rfl) (by kernel_rfl) (fun _ _ _ h => h) hC (.inl ⟨by rfl, fun _ _ => ?_⟩) ?_
  rotate_left 1
  · go_simp
    try with_reducible rfl
  simp only [Act.put, List.getElem_toArray, List.getElem_cons_succ, List.getElem_cons_zero, List.setIfInBounds_toArray, List.set_cons_zero, List.set_cons_succ]
  refine anyT_takeC (i := 4) (v := ?_) rfl (by kernel_rfl) (by kernel_rfl) (by kernel_rfl) (by kernel_rfl) (by kernel_rfl) (by kernel_rfl) (fun _ _ _ h => h) hC (.inl ⟨by rfl, fun w hCw => ?_⟩) ?_
  rotate_left 1
  · dsimp only at hCw
    go_simp
    try with_reducible rfl
  simp only [Act.put, List.getElem_toArray, List.getElem_cons_succ, List.getElem_cons_zero, List.setIfInBounds_toArray, List.set_cons_zero, List.set_cons_succ]
  refine anyT_take0 (i := 5) (v := ?_) rfl (by kernel_rfl) (by kernel_rfl) (by kernel_rfl) (by kernel_rfl) (by kernel_rfl) (fun _ _ _ h => h) hC (.inl ⟨by rfl, fun _ _ => ?_⟩) ?_
  rotate_left 1
  · go_simp
    try with_reducible rfl
  simp only [Act.put, List.getElem_toArray, List.getElem_cons_succ, List.getElem_cons_zero, List.setIfInBounds_toArray, List.set_cons_zero, List.set_cons_succ]
  refine anyT_take0 (i := 6) (v := ?_) rfl (by kernel_rfl) (by kernel_rfl) (by kernel_rfl) (by kernel_rfl) (by kernel_rfl) (fun _ _ _ h => h) hC (.inl ⟨by rfl, fun _ _ => ?_⟩) ?_
  rotate_left 1
  · go_simp
    try with_reducible rfl
  simp only [Act.put, List.getElem_toArray, List.getElem_cons_succ, List.getElem_cons_zero, List.setIfInBounds_toArray, List.set_cons_zero, List.set_cons_succ]
  refine anyT_take0 (i := 7) (v := ?_) rfl (by kernel_rfl) (by kernel_rfl) (by kernel_rfl) (by kernel_rfl) (by kernel_rfl) (fun _ _ _ h => h) hC (.inl ⟨by rfl, fun _ _ => ?_⟩) ?_
  rotate_left 1
  · go_simp
    try with_reducible rfl
  simp only [Act.put, List.getElem_toArray, List.getElem_cons_succ, List.getElem_cons_zero, List.setIfInBounds_toArray, List.set_cons_zero, List.set_cons_succ]
  refine anyT_take0 (i := 8) (v := ?_) rfl (by kernel_rfl) (by kernel_rfl) (by kernel_rfl) (by kernel_rfl) (by kernel_rfl) (fun _ _ _ h => h) hC (.inl ⟨by rfl, fun _ _ => ?_⟩) ?_
  rotate_left 1
  · go_simp
    try with_reducible rfl
  simp only [Act.put, List.getElem_toArray, List.getElem_cons_succ, List.getElem_cons_zero, List.setIfInBounds_toArray, List.set_cons_zero, List.set_cons_succ]
  refine anyT_force (i := 9) rfl (by kernel_rfl) (by rfl) ?_
  refine Lib.wp_append_run _ _ _ _ _ rfl _ _ rfl rfl _ _ HR.out ?_
  refine ⟨fun _ => p2', ?_⟩
  simp only [Act.put, List.getElem_toArray, List.getElem_cons_succ, List.getElem_cons_zero, List.setIfInBounds_toArray, List.set_cons_zero, List.set_cons_succ]
  have hC := p2'
  refine anyT_take0 (i := 10) (v := ?_) rfl (by kernel_rfl) (by kernel_rfl) (by kernel_rfl) (by kernel_rfl) (by kernel_rfl) (fun _ _ _ h => h) hC (.inl ⟨by rfl, fun _ _ => ?_⟩) ?_
  rotate_left 1
  · go_simp
    try with_reducible rfl
  simp only [Act.put, List.getElem_toArray, List.getElem_cons_succ, List.getElem_cons_zero, List.setIfInBounds_toArray, List.set_cons_zero, List.set_cons_succ]
  refine anyT_take0 (i := 11) (v := ?_) rfl (by kernel_rfl) (by kernel_rfl) (by kernel_rfl) (by kernel_rfl) (by kernel_rfl) (fun _ _ _ h => h) hC (.inl ⟨by rfl, fun _ _ => ?_⟩) ?_
  rotate_left 1
  · go_simp
    try with_reducible rfl
  simp only [Act.put, List.getElem_toArray, List.getElem_cons_succ, List.getElem_cons_zero, List.setIfInBounds_toArray, List.set_cons_zero, List.set_cons_succ]
  refine anyT_tail (k := 12) (by rfl) (by kernel_rfl) (by simp) rfl rfl (by kernel_rfl) ?_
  have hr6 : RowAt (w5.setCell ⟨g, 2, none⟩ (.slice a5 M.length c5)) g #[.int .i64 room, .int .i64 first, .slice a5 M.length c5] 80 := (hr5.set 2 _).eq rfl
  have hg5 : (Value.slice a5 M.length c5).ownBlock ≠ some g := ho5.apart hr5 (by decide)
  have ho6 := ho5.keeps ((Keeps.refl (· = g) w5).setCell ⟨g, 2, none⟩ (.slice a5 M.length c5) (.inl rfl)) (fun b hb e => by subst e; exact hg5 hb)
  have hkF : Keeps (fun b => b = g ∨ (Value.slice ba l.length bc).ownBlock = some b) w (w5.setCell ⟨g, 2, none⟩ (.slice a5 M.length c5)) := ((hkq.mono (fun _ _ h => h.elim)).trans (hk5'.mono (fun _ _ h => .inr h)) (fun _ _ h => h)).setCell _ _ (.inl (.inl rfl))
  have hpl : (Value.slice a5 M.length c5).ownBlock = (Value.slice ba l.length bc).ownBlock ∨ ∃ b, (Value.slice a5 M.length c5).ownBlock = some b ∧ w.heap.size ≤ b := hpl5.imp id (fun ⟨b, h1, h2⟩ => ⟨b, h1, Nat.le_trans hkq.size h2⟩)
  go_wp2
  go_ret2
  exact ⟨rfl, hkF, _, hr6, ho6, hpl⟩

set_option maxRecDepth 100000 in
set_option maxHeartbeats 1000000 in
theorem ends_any (g : Nat) (room first : Int) (bv : Value) (n : Nat) (a : Option Addr) (c : Nat) (w : World) (hr : RowAt w g #[.int .i64 room, .int .i64 first, bv] 80) (hb : bv = .slice a n c) (h1 : 0 ≤ first) (h2 : first ≤ 1000000000) (h3 : n ≤ 1000000000) :
    Calls Try.prog 29 #[.pointer (some ⟨g, 0, none⟩)] w fun e w' => e = .returned (.tuple #[.int .i64 first, .int .i64 (first + n)]) ∧ ∃ m, w' = w.drewN m := by
  subst hb
  have p1 : w.cell? ⟨g, 1, none⟩ = some (.int .i64 first) := hr.cell 1
  have p2 : w.cell? ⟨g, 2, none⟩ = some (.slice a n c) := hr.cell 2
  have q1 := i64_fit (first + (n : Int)) (by omega) (by omega)
  go_enter Try.func29, Try.ntmps29
  go_wp2
  go_quiet (fail)
  go_wp2
  go_ret2
  exact ⟨rfl, _, rfl⟩
end Go.Proofs.Ytiodmhcmciohnaa

/-! (*Sender).Write to a sender that has nothing; place. -/
namespace Go.Proofs.Ytiodmhcmciohnaa
set_option linter.unusedVariables false
set_option linter.unusedSimpArgs false
open Go.RowKit

set_option maxRecDepth 100000 in
set_option maxHeartbeats 1000000 in
theorem write0_any (g n : Nat) (room first : Int) (dv : Value) (data : List UInt8) (w : World) (hr : RowAt w g #[.int .i64 room, .int .i64 first, .slice none 0 0] 80) (hd : BRd w dv data)
    (h1 : 1 ≤ room) (h2 : room ≤ 65535) (h0 : 0 < data.length) (hl : data.length ≤ 1000000) (hn : (n : Int) = if room < (data.length : Int) then room else (data.length : Int)) :
    Calls Try.prog 23 #[.pointer (some ⟨g, 0, none⟩), dv] w fun e w' => e = .returned (.tuple #[.int .i64 n, .int .i64 0]) ∧ Keeps (· = g) w w' ∧ ∃ bv', RowAt w' g #[.int .i64 room, .int .i64 first, bv'] 80 ∧ BOwn w' w.heap.size bv' (data.take n) := by
  obtain ⟨db, do_, dc, rfl, hdc, hdm, hdb, -⟩ := BAt.get hd h0
  simp only [maxLen] at hdm
  have hnl : n ≤ data.length := by split at hn <;> omega
  have hmn : (if room < (data.length : Int) then room else (data.length : Int)) = (n : Int) := hn.symm
  have p0 : w.cell? ⟨g, 0, none⟩ = some (.int .i64 room) := hr.cell 0
  have p2 : w.cell? ⟨g, 2, none⟩ = some (.slice none 0 0) := hr.cell 2
  have q1 := i64_fit room (by omega) (by omega)
  have hnc : (n : Int) ≤ (dc : Int) := by omega
  have htl : (data.take n).length = n := by rw [List.length_take]; omega
  have htk : BRd w (.slice (some ⟨db, do_, none⟩) n n) (data.take n) := by
    have := BAt.take hd n hnl
    exact BAt.recap this n (Nat.le_refl _) (by simp only [maxLen]; omega)
  have HN := Lib.hid hn
  clear hn
  go_enter Try.func23, Try.ntmps23
  go_wp2
  go_quiet (fail)
  go_wp2
  have hkq : Keeps (fun _ => False) w (w.drewN nq) := (Keeps.refl _ _).drewN nq
  have hrq := hr.keeps hkq (fun h => h)
  generalize w.drewN nq = W at *
  obtain ⟨v5, w5, hrun, ho5, hk5, -⟩ := run_append_bytes (ty := 30) (BOwn.nil W.drew w.heap.size) (htk.keeps hkq.drew) (by simp only [List.length_nil]; omega) (by have := hkq.size; exact this)
  rw [List.nil_append] at ho5
  obtain ⟨a5, c5, rfl, -, -⟩ := BOwn.slice ho5
  rw [htl] at hrun ho5
  have HR := Lib.hid hrun
  have hk5' : Keeps (fun _ => False) W w5 := (Keeps.refl (fun _ => False) W).drew.trans hk5 (fun b _ e => by simp [Value.ownBlock] at e)
  have hr5 := hrq.keeps hk5' (fun h => h)
  have p2' : w5.cell? ⟨g, 2, none⟩ = some (.slice none 0 0) := hr5.cell 2
  have f2' := hr5.frozen 2
  clear hrun
  refine region_T [12] (fun x => x.cell? ⟨g, 2, none⟩ = some (.slice none 0 0)) (by kernel_rfl) ?_
  have hC : (fun x : World => x.cell? ⟨g, 2, none⟩ = some (.slice none 0 0)) W.drew := hrq.cell 2
  refine anyT_take0 (i := 0) (v := ?_) rfl (by kernel_rfl) (by kernel_rfl) (by kernel_rfl) (by kernel_rfl) (by kernel_rfl) (fun _ _ _ h => h) hC (.inl ⟨by rfl, fun _ _ => ?_⟩) ?_
  rotate_left 1
  · go_simp
    try with_reducible rfl
  simp only [Act.put, List.getElem_toArray, List.getElem_cons_succ, List.getElem_cons_zero, List.setIfInBounds_toArray, List.set_cons_zero, List.set_cons_succ]
  refine anyT_take0 (i := 1) (v := ?_) rfl (by kernel_rfl) (by kernel_rfl) (by kernel_rfl) (by kernel_rfl) (by kernel_rfl) (fun _ _ _ h => h) hC (.inl ⟨by rfl, fun _ _ => ?_⟩) ?_
  rotate_left 1
  · go_simp
    try with_reducible rfl
  simp only [Act.put, List.getElem_toArray, List.getElem_cons_succ, List.getElem_cons_zero, List.setIfInBounds_toArray, List.set_cons_zero, List.set_cons_succ]
  refine anyT_take0 (i := 2) (v := ?_) rfl (by kernel_rfl) (by kernel_rfl) (by kernel_rfl) (by kernel_rfl) (by kernel_rfl) (fun _ _ _ h => h) hC (.inl ⟨by rfl, fun _ _ => ?_⟩) ?_
  rotate_left 1
  · go_simp
    try with_reducible rfl
  simp only [Act.put, List.getElem_toArray, List.getElem_cons_succ, List.getElem_cons_zero, List.setIfInBounds_toArray, List.set_cons_zero, List.set_cons_succ]
  refine anyT_take0 (i := 3) (v := ?_) rfl (by kernel_rfl) (by kernel_rfl) (by kernel_rfl) (by kernel_rfl) (by kernel_rfl) (fun _ _ _ h => h) hC (.inl ⟨by rfl, fun _ _ => ?_⟩) ?_
  rotate_left 1
  · go_simp
    try with_reducible rfl
  simp only [Act.put, List.getElem_toArray, List.getElem_cons_succ, List.getElem_cons_zero, List.setIfInBounds_toArray, List.set_cons_zero, List.set_cons_succ]
  refine anyT_takeC (i := 4) (v := ?_) rfl (by kernel_rfl) (by kernel_rfl) (by kernel_rfl) (by kernel_rfl) (by kernel_rfl) (by kernel_rfl) (fun _ _ _ h => h) hC (.inl ⟨by rfl, fun w hCw => ?_⟩) ?_
  rotate_left 1
  · dsimp only at hCw
    go_simp
    try with_reducible rfl
  simp only [Act.put, List.getElem_toArray, List.getElem_cons_succ, List.getElem_cons_zero, List.setIfInBounds_toArray, List.set_cons_zero, List.set_cons_succ]
  refine anyT_take0 (i := 5) (v := ?_) rfl (by kernel_rfl) (by kernel_rfl) (by kernel_rfl) (by kernel_rfl) (by kernel_rfl) (fun _ _ _ h => h) hC (.inl ⟨by rfl, fun _ _ => ?_⟩) ?_
  rotate_left 1
  · go_simp
    try with_reducible rfl
  simp only [Act.put, List.getElem_toArray, List.getElem_cons_succ, List.getElem_cons_zero, List.setIfInBounds_toArray, List.set_cons_zero, List.set_cons_succ]
  refine anyT_take0 (i := 6) (v := ?_) rfl (by kernel_rfl) (by kernel_rfl) (by kernel_rfl) (by kernel_rfl) (by kernel_rfl) (fun _ _ _ h => h) hC (.inl ⟨by rfl, fun _ _ => ?_⟩) ?_
  rotate_left 1
  · go_simp
    try with_reducible rfl
  simp only [Act.put, List.getElem_toArray, List.getElem_cons_succ, List.getElem_cons_zero, List.setIfInBounds_toArray, List.set_cons_zero, List.set_cons_succ]
  refine anyT_take0 (i := 7) (v := ?_) rfl (by kernel_rfl) (by kernel_rfl) (by kernel_rfl) (by kernel_rfl) (by kernel_rfl) (fun _ _ _ h => h) hC (.inl ⟨by rfl, fun _ _ => ?_⟩) ?_
  rotate_left 1
  · go_simp
    try with_reducible rfl
  simp only [Act.put, List.getElem_toArray, List.getElem_cons_succ, List.getElem_cons_zero, List.setIfInBounds_toArray, List.set_cons_zero, List.set_cons_succ]
  refine anyT_take0 (i := 8) (v := ?_) rfl (by kernel_rfl) (by kernel_rfl) (by kernel_rfl) (by kernel_rfl) (by kernel_rfl) (fun _ _ _ h => h) hC (.inl ⟨by rfl, fun _ _ => ?_⟩) ?_
  rotate_left 1
  · go_simp
    try with_reducible rfl
  simp only [Act.put, List.getElem_toArray, List.getElem_cons_succ, List.getElem_cons_zero, List.setIfInBounds_toArray, List.set_cons_zero, List.set_cons_succ]
  refine anyT_force (i := 9) rfl (by kernel_rfl) (by rfl) ?_
  refine Lib.wp_append_run _ _ _ _ _ rfl _ _ rfl rfl _ _ HR.out ?_
  refine ⟨fun _ => p2', ?_⟩
  simp only [Act.put, List.getElem_toArray, List.getElem_cons_succ, List.getElem_cons_zero, List.setIfInBounds_toArray, List.set_cons_zero, List.set_cons_succ]
  have hC := p2'
  refine anyT_take0 (i := 10) (v := ?_) rfl (by kernel_rfl) (by kernel_rfl) (by kernel_rfl) (by kernel_rfl) (by kernel_rfl) (fun _ _ _ h => h) hC (.inl ⟨by rfl, fun _ _ => ?_⟩) ?_
  rotate_left 1
  · go_simp
    try with_reducible rfl
  simp only [Act.put, List.getElem_toArray, List.getElem_cons_succ, List.getElem_cons_zero, List.setIfInBounds_toArray, List.set_cons_zero, List.set_cons_succ]
  refine anyT_take0 (i := 11) (v := ?_) rfl (by kernel_rfl) (by kernel_rfl) (by kernel_rfl) (by kernel_rfl) (by kernel_rfl) (fun _ _ _ h => h) hC (.inl ⟨by rfl, fun _ _ => ?_⟩) ?_
  rotate_left 1
  · go_simp
    try with_reducible rfl
  simp only [Act.put, List.getElem_toArray, List.getElem_cons_succ, List.getElem_cons_zero, List.setIfInBounds_toArray, List.set_cons_zero, List.set_cons_succ]
  refine anyT_tail (k := 12) (by rfl) (by kernel_rfl) (by simp) rfl rfl (by kernel_rfl) ?_
  have hr6 : RowAt (w5.setCell ⟨g, 2, none⟩ (.slice a5 n c5)) g #[.int .i64 room, .int .i64 first, .slice a5 n c5] 80 := (hr5.set 2 _).eq rfl
  have hgl := hr.lt
  have ho6 := ho5.keeps ((Keeps.refl (· = g) w5).setCell ⟨g, 2, none⟩ (.slice a5 n c5) (.inl rfl)) (fun b hb e => by have := (ho5.block b hb).1; omega)
  have hkF : Keeps (· = g) w (w5.setCell ⟨g, 2, none⟩ (.slice a5 n c5)) := ((hkq.trans hk5' (fun _ _ h => h)).mono (fun _ _ h => h.elim)).setCell _ _ (.inl rfl)
  go_wp2
  go_ret2
  exact ⟨rfl, hkF, _, hr6, ho6⟩
end Go.Proofs.Ytiodmhcmciohnaa

/-! (*Sender).place, Peek of all the rest. -/
namespace Go.Proofs.Ytiodmhcmciohnaa
set_option linter.unusedVariables false
set_option linter.unusedSimpArgs false
open Go.RowKit

set_option maxRecDepth 100000 in
set_option maxHeartbeats 1000000 in
theorem place_any (g i n c : Nat) (a : Option Addr) (room first : Int) (w : World) (hr : RowAt w g #[.int .i64 room, .int .i64 first, .slice a n c] 80) (h1 : 0 ≤ first) (h2 : first ≤ 1000000000) (hi : i ≤ n) (hn : n ≤ 1000000000) :
    Calls Try.prog 40 #[.pointer (some ⟨g, 0, none⟩), .int .i64 (first + i)] w fun e w' => e = .returned (.tuple #[.int .i64 i, .int .i64 0]) ∧ ∃ m, w' = w.drewN m := by
  obtain ⟨at', hat⟩ : ∃ x, first + (i : Int) = x := ⟨_, rfl⟩
  rw [hat]
  have p1 : w.cell? ⟨g, 1, none⟩ = some (.int .i64 first) := hr.cell 1
  have p2 : w.cell? ⟨g, 2, none⟩ = some (.slice a n c) := hr.cell 2
  have q1 : IntKind.i64.wrap (at' - first) = (i : Int) := by rw [i64_fit _ (by omega) (by omega)]; omega
  have g1 : ¬ at' < first := by omega
  have g2 : ¬ (n : Int) < (i : Int) := by omega
  clear hat
  go_enter Try.func40, Try.ntmps40
  go_wp2
  go_quiet (fail)
  go_wp2
  go_ret2
  exact ⟨rfl, _, rfl⟩

/-- Bytes over bytes, as many. -/
theorem copy_bytes {w : World} {p : Nat → Prop} {B g c db o c2 k : Nat} {l m : List UInt8} (ty : TypeId) (hO : BOwn w B (.slice (some ⟨g, 0, none⟩) k c) l) (hS : BAt w p (.slice (some ⟨db, o, none⟩) k c2) m) (hl : l.length = k) (hm : m.length = k) (hk0 : 0 < k) :
    ∃ w', (Builtin.copy_ #[30, 30] ty #[.slice (some ⟨g, 0, none⟩) k c, .slice (some ⟨db, o, none⟩) k c2]).run Try.prog w = .ok (.int .i64 k) w' ∧ BOwn w' B (.slice (some ⟨g, 0, none⟩) k c) m ∧ Keeps (· = g) w w' := by
  obtain ⟨h1, h0, h2⟩ := hO
  rcases h2 with ⟨e, -, -⟩ | ⟨g', off', c', cs, hb, e, h3, h4, hr, h5, h6⟩
  · simp at e
  · simp only [Value.slice.injEq, Option.some.injEq, Addr.mk.injEq, and_true] at e
    obtain ⟨⟨rfl, rfl⟩, -, rfl⟩ := e
    obtain ⟨s1, a1, c1, e1, s3, s4, s5⟩ := hS
    simp only [Value.slice.injEq] at e1
    obtain ⟨e1, -, -⟩ := e1
    have hsrc : ∀ j v, (bcells m)[j]? = some v → w.cell? ((⟨db, o, none⟩ : Addr).add j) = some v := by
      rcases s5 with s5 | ⟨b9, o9, -, ha, hc⟩
      · rw [s5, List.length_nil] at s1; omega
      · intro j v hv
        rw [← e1] at ha
        simp only [Option.some.injEq, Addr.mk.injEq, and_true] at ha
        obtain ⟨rfl, rfl⟩ := ha
        rw [addr_add]
        exact hc j v hv
    have hbl : (bcells m).length = k := by rw [bcells_length, hm]
    have hrun := run_copy_row (P := Try.prog) w 30 30 ty 5 g 0 k c ⟨db, o, none⟩ k c2 cs 5 (bcells m) Try.underlying30 (by kernel_rfl) hr (by rw [hbl]; exact (Nat.min_self k).symm) hsrc (by rw [hbl]; omega) (bcells_one m)
    rw [hbl] at hrun
    refine ⟨_, hrun, ?_, ⟨rfl, rfl, rfl, by simp [World.setRow], fun j _ hj => setRow_other w g j _ hj⟩⟩
    refine ⟨by rw [bcells_length, Nat.mul_one], bcells_one m, .inr ⟨g, 0, c, _, hb, by rw [hm], by rw [hm]; omega, h4, setRow_heap w g _ _ _ _ hr, ?_, fun j hj => ?_⟩⟩
    · simp only [List.size_toArray, List.length_append, List.length_take, List.length_drop, Array.length_toList, hbl]
      omega
    · rw [Nat.zero_add, List.getElem?_toArray, List.take_zero, List.nil_append, List.getElem?_append_left (by rw [hbl]; omega), Nat.zero_add]

set_option maxRecDepth 100000 in
set_option maxHeartbeats 1000000 in
theorem peekrest_any (g i k c : Nat) (a : Option Addr) (room first n : Int) (l : List UInt8) (w : World) (hr : RowAt w g #[.int .i64 room, .int .i64 first, .slice a l.length c] 80) (hb : BRd w (.slice a l.length c) l)
    (h1 : 0 ≤ first) (h2 : first ≤ 1000000000) (hik : i + k = l.length) (hk0 : 0 < k) (hl : l.length ≤ 1000000) (hn : (k : Int) ≤ n) :
    Calls Try.prog 25 #[.pointer (some ⟨g, 0, none⟩), .int .i64 (first + i), .int .i64 n] w fun e w' => ∃ v, e = .returned (.tuple #[v, .int .i64 0]) ∧ BOwn w' w.heap.size v (l.drop i) ∧ Keeps (fun _ => False) w w' := by
  have hpl := place_any g i l.length c a room first w hr h1 h2 (by omega) (by omega)
  have p2 : w.cell? ⟨g, 2, none⟩ = some (.slice a l.length c) := hr.cell 2
  obtain ⟨db, do_, dc, e, hdc, hdm, hdb, -⟩ := BAt.get hb (by omega)
  simp only [Value.slice.injEq, true_and] at e
  obtain ⟨rfl, rfl⟩ := e
  simp only [maxLen] at hdm
  obtain ⟨o2, e2, hdrop, -⟩ := BAt.cut hb i (by omega)
  rw [if_neg (by omega)] at e2
  simp only [Option.some.injEq, Addr.mk.injEq, and_true, true_and] at e2
  subst e2
  have hdl : (l.drop i).length = k := by rw [List.length_drop]; omega
  obtain ⟨D, hD⟩ : ∃ D, l.drop i = D := ⟨_, rfl⟩
  rw [hD] at hdrop hdl ⊢
  rw [show l.length - i = k by omega] at hdrop
  have hlk : l.length - i = k := by omega
  have q1 : IntKind.i64.wrap ((l.length : Int) - (i : Int)) = (k : Int) := by rw [i64_fit _ (by omega) (by omega)]; omega
  have hmn : (if (k : Int) < n then (k : Int) else n) = (k : Int) := by split <;> omega
  have hn0 : ¬ n < 0 := by omega
  have hil : (i : Int) ≤ (l.length : Int) := by omega
  have HPL := Lib.hid hpl
  clear hpl hD
  go_enter Try.func25, Try.ntmps25
  go_wp2_with fail
  refine HPL.out.mono ?_
  rintro e w2 ⟨rfl, m, rfl⟩
  go_wp2_with (refine wpList_make_bytes rfl _ _ rfl w.heap.size k k k k rfl rfl rfl rfl (Nat.le_refl _) (by omega) (Nat.le_refl _) (fun w1 ho1 hk1 => ?_); have p2' := hk1.cell (a := ⟨g, 2, none⟩) (v := .slice (some ⟨db, do_, none⟩) l.length c) p2 (fun h => h); (have ho1' : BOwn w1 w.heap.size (.slice (some ⟨w.heap.size, 0, none⟩) k k) (List.replicate k 0) := ho1); obtain ⟨w5, hcp, ho5, hk5⟩ := copy_bytes 3 ho1' (BAt.keeps hdrop ((Keeps.refl (fun _ => False) w).drewN m |>.trans hk1 (fun _ _ h => h)) (fun _ _ h => h)) (by simp) hdl hk0)
  have hgl := hr.lt
  go_ret2
  exact ⟨_, rfl, ho5, (((Keeps.refl (fun _ => False) w).drewN m).trans hk1 (fun _ _ h => h)).from hk5 (fun b e => by omega)⟩
end Go.Proofs.Ytiodmhcmciohnaa

/-! A sender's calls in general: copy, place, Drop, Peek. -/
namespace Go.Proofs.Ytiodmhcmciohnaa
set_option linter.unusedVariables false
set_option linter.unusedSimpArgs false
open Go.RowKit

theorem BOwn.first {w : World} {B n c : Nat} {a : Option Addr} {l : List UInt8} (h : BOwn w B (.slice a n c) l) (k : Nat) (hk : k ≤ l.length) : BOwn w B (.slice a k c) (l.take k) := by
  obtain ⟨h1, h0, h2⟩ := h
  have hlk : (l.take k).length = k := by rw [List.length_take]; omega
  rcases h2 with ⟨e, hn, hx⟩ | ⟨g', off', c', cs, hb, e, h3, h4, hr, h5, h6⟩
  · simp only [Value.slice.injEq] at e
    obtain ⟨rfl, rfl, rfl⟩ := e
    obtain rfl : k = 0 := by omega
    exact ⟨by simp [bcells], by simp [bcells], .inl ⟨rfl, by simp, by simp [bcells]⟩⟩
  · simp only [Value.slice.injEq] at e
    obtain ⟨rfl, rfl, rfl⟩ := e
    refine ⟨by rw [bcells_length, Nat.mul_one], bcells_one _, .inr ⟨g', off', c, cs, hb, by rw [hlk], by omega, h4, hr, h5, fun j hj => ?_⟩⟩
    have hj' : j < k := by omega
    rw [h6 j (by omega)]
    simp [bcells, hj']

/-- Bytes over bytes: as many as both have. -/
theorem run_copy_own {w : World} {p : Nat → Prop} {B n c k c2 j : Nat} {a a2 : Option Addr} {l m : List UInt8} (ty : TypeId) (hO : BOwn w B (.slice a n c) l) (hS : BAt w p (.slice a2 k c2) m) (hj : j = Nat.min k n) :
    ∃ w', (Builtin.copy_ #[30, 30] ty #[.slice a n c, .slice a2 k c2]).run Try.prog w = .ok (.int .i64 j) w' ∧ BOwn w' B (.slice a n c) (m.take j ++ l.drop j) ∧ Keeps (fun b => (Value.slice a n c).ownBlock = some b) w w' := by
  obtain ⟨h1, h0, h2⟩ := hO
  obtain ⟨s1, a1, c1, e1, s3, s4, s5⟩ := hS
  simp only [Value.slice.injEq] at e1
  obtain ⟨rfl, rfl, rfl⟩ := e1
  have hmin : Nat.min m.length n = if m.length ≤ n then m.length else n := Nat.min_def
  have hjm : j ≤ m.length := by split at hmin <;> omega
  have hjn : j ≤ n := by split at hmin <;> omega
  obtain ⟨i, hi, hz, hs, hby⟩ := info_parts info_u8
  rcases h2 with ⟨e, hn, hx⟩ | ⟨g', off', c', cs, hb, e, h3, h4, hr, h5, h6⟩
  · simp only [Value.slice.injEq] at e
    obtain ⟨rfl, rfl, rfl⟩ := e
    obtain rfl : j = 0 := by omega
    have hl : l = [] := by simpa [bcells] using hx
    subst hl
    refine ⟨w, ?_, by simpa using BOwn.nil w B, Keeps.refl _ _⟩
    cases a2 with
    | none => simp [Builtin.copy_, run_underlying Try.underlying30, Builtin.lenOf, Builtin.firstCells, sizeOf, typeInfo, hi, ← hj, goInt]
    | some ad =>
      have hl := run_loadCells_list (P := Try.prog) w ad [] (by simp)
      simp [Builtin.copy_, run_underlying Try.underlying30, Builtin.lenOf, Builtin.firstCells, sizeOf, typeInfo, hi, ← hj, goInt] at hl ⊢
      simp [hl]
  · simp only [Value.slice.injEq] at e
    obtain ⟨rfl, rfl, rfl⟩ := e
    have hcl : (bcells (m.take j)).length = j := by rw [bcells_length, List.length_take]; omega
    cases a2 with
    | none =>
      have hm0 : m = [] := by
        rcases s5 with s5 | ⟨b9, o9, -, ha, -⟩
        · simpa [bcells] using s5
        · cases ha
      subst hm0
      obtain rfl : j = 0 := by simpa using hjm
      refine ⟨w, ?_, ?_, Keeps.refl _ _⟩
      rotate_left 1
      · rw [List.take_zero, List.nil_append, List.drop_zero]
        exact ⟨h1, h0, .inr ⟨g', off', c, cs, hb, rfl, h3, h4, hr, h5, h6⟩⟩
      simp [Builtin.copy_, run_underlying Try.underlying30, Builtin.lenOf, Builtin.firstCells, sizeOf, typeInfo, hi, storeCells, goInt]
    | some ad =>
      have hsrc : ∀ x v, (bcells (m.take j))[x]? = some v → w.cell? (ad.add x) = some v := by
        intro x v hv
        have hxj : x < j := by rw [← hcl]; exact (List.getElem?_eq_some_iff.1 hv).1
        rcases s5 with s5 | ⟨b9, o9, -, ha, hc⟩
        · have : m = [] := by simpa [bcells] using s5
          subst this
          simp [bcells] at hv
        · simp only [Option.some.injEq] at ha
          subst ha
          rw [addr_add]
          refine hc x v ?_
          rw [← hv]
          simp [bcells, hxj]
      have hrun := run_copy_row (P := Try.prog) w 30 30 ty 5 g' off' l.length c ad m.length c2 cs 5 (bcells (m.take j)) Try.underlying30 (by kernel_rfl) hr (by rw [hcl]; exact hj) hsrc (by rw [hcl]; omega) (bcells_one _)
      rw [hcl] at hrun
      refine ⟨_, hrun, ?_, ⟨rfl, rfl, rfl, by simp [World.setRow], fun x _ hx => setRow_other w g' x _ fun e => hx (by simp [Value.ownBlock, e])⟩⟩
      have hlen : (m.take j ++ l.drop j).length = l.length := by rw [List.length_append, List.length_take, List.length_drop]; omega
      refine ⟨by rw [bcells_length, Nat.mul_one], bcells_one _, .inr ⟨g', off', c, _, hb, by rw [hlen], by rw [hlen]; exact h3, h4, setRow_heap w g' _ _ _ _ hr, ?_, fun x hx => ?_⟩⟩
      · simp only [List.size_toArray, List.length_append, List.length_take, List.length_drop, Array.length_toList, hcl]
        omega
      · rw [hlen] at hx
        have hofl : (cs.toList.take off').length = off' := by rw [List.length_take, Array.length_toList]; omega
        rw [List.getElem?_toArray, bcells_append]
        by_cases hxj : x < j
        · rw [List.getElem?_append_left (by rw [List.length_append, hofl, hcl]; omega), List.getElem?_append_right (by rw [hofl]; omega), hofl, Nat.add_sub_cancel_left, List.getElem?_append_left (by rw [hcl]; exact hxj)]
        · rw [List.getElem?_append_right (by rw [List.length_append, hofl, hcl]; omega), List.length_append, hofl, hcl, List.getElem?_append_right (by rw [hcl]; omega), hcl, List.getElem?_drop, show off' + j + (off' + x - (off' + j)) = off' + x by omega, Array.getElem?_toList, h6 x (by omega)]
          simp [bcells, show j + (x - j) = x by omega]

theorem place_bad (g n c : Nat) (a : Option Addr) (room first at' : Int) (w : World) (hr : RowAt w g #[.int .i64 room, .int .i64 first, .slice a n c] 80) (h1 : 0 ≤ first) (hat : at' ≤ 9223372036854775807) (hbad : at' < first ∨ (n : Int) < at' - first) :
    Calls Try.prog 40 #[.pointer (some ⟨g, 0, none⟩), .int .i64 at'] w fun e w' => e = .returned (.tuple #[.int .i64 0, .int .i64 1]) ∧ ∃ m, w' = w.drewN m := by
  have p1 : w.cell? ⟨g, 1, none⟩ = some (.int .i64 first) := hr.cell 1
  have p2 : w.cell? ⟨g, 2, none⟩ = some (.slice a n c) := hr.cell 2
  by_cases g1 : at' < first
  · go_enter Try.func40, Try.ntmps40
    go_wp2
    go_quiet (fail)
    go_wp2
    go_ret2
    exact ⟨rfl, _, rfl⟩
  · have q1 := i64_fit (at' - first) (by omega) (by omega)
    have g2 : (n : Int) < at' - first := by omega
    go_enter Try.func40, Try.ntmps40
    go_wp2
    go_quiet (fail)
    go_wp2
    go_ret2
    exact ⟨rfl, _, rfl⟩

/-- As the machine cuts off the first bytes. -/
def cutA (a : Option Addr) (c k : Nat) : Option Addr := if c = k then a else a.map (·.add k)
theorem BAt.cutG {w : World} {p : Nat → Prop} {a : Option Addr} {n c : Nat} {l : List UInt8} (h : BAt w p (.slice a n c) l) (k : Nat) (hk : k ≤ l.length) : BAt w p (.slice (cutA a c k) (n - k) (c - k)) (l.drop k) := by
  obtain ⟨h1, a1, c1, e, h3, h4, h5⟩ := h
  simp only [Value.slice.injEq] at e
  obtain ⟨rfl, rfl, rfl⟩ := e
  have hl : (l.drop k).length = l.length - k := List.length_drop
  refine ⟨by rw [bcells_length, Nat.mul_one], cutA a c k, c - k, by rw [hl], by rw [hl]; omega, by omega, ?_⟩
  by_cases hz : l.drop k = []
  · left
    rw [hz]
    rfl
  · right
    have : 0 < (l.drop k).length := List.length_pos_iff.2 hz
    rcases h5 with h5 | ⟨b, off, hb, rfl, hx⟩
    · have hll : (bcells l).length = 0 := by rw [h5]; rfl
      rw [bcells_length] at hll
      omega
    · refine ⟨b, off + k, hb, ?_, fun j u hu => ?_⟩
      · unfold cutA
        rw [if_neg (by omega), Option.map_some, addr_add]
      · rw [Nat.add_assoc]
        refine hx (k + j) u ?_
        rw [← hu]
        simp [bcells, List.getElem?_drop]

set_option maxRecDepth 100000 in
set_option maxHeartbeats 1000000 in
theorem drop_any (g B i : Nat) (room first : Int) (bv : Value) (l : List UInt8) (w : World) (hr : RowAt w g #[.int .i64 room, .int .i64 first, bv] 80) (ho : BOwn w B bv l) (h1 : 0 ≤ first) (h2 : first ≤ 1000000000) (hi : i ≤ l.length) (hl : l.length ≤ 1000000) :
    Calls Try.prog 27 #[.pointer (some ⟨g, 0, none⟩), .int .i64 (first + i)] w fun e w' => e = .returned (.tuple #[.int .i64 i, .int .i64 0]) ∧ Keeps (fun b => b = g ∨ bv.ownBlock = some b) w w' ∧
      ∃ bv', RowAt w' g #[.int .i64 room, .int .i64 (first + i), bv'] 80 ∧ BOwn w' B bv' (l.drop i) ∧ bv'.ownBlock = bv.ownBlock := by
  obtain ⟨ba, bc, rfl, hbc, hbm⟩ := BOwn.slice ho
  simp only [maxLen] at hbm
  have hpl := place_any g i l.length bc ba room first w hr h1 h2 hi (by omega)
  have hgb : (Value.slice ba l.length bc).ownBlock ≠ some g := ho.apart hr (by decide)
  have HPL := Lib.hid hpl
  have hic : (i : Int) ≤ (l.length : Int) := by omega
  have hcut := BAt.cutG ho.bat i hi
  clear hpl
  go_enter Try.func27, Try.ntmps27
  go_wp2_with fail
  refine HPL.out.mono ?_
  rintro e w2 ⟨rfl, m, rfl⟩
  have hk2 : Keeps (fun _ => False) w (w.drewN m) := (Keeps.refl _ _).drewN m
  have hr2 := hr.drewN m
  have ho2 := ho.keeps hk2 (fun _ _ h => h)
  have hc2 := hcut.keeps hk2 (fun _ _ h => h)
  generalize w.drewN m = W at *
  have p2 : W.cell? ⟨g, 2, none⟩ = some (.slice ba l.length bc) := hr2.cell 2
  go_wp2_with fail
  refine region_draws_tail 10 (by kernel_rfl) (by kernel_rfl) ?_
  simp only [List.take_succ_cons, List.take_zero, List.drop_succ_cons, List.drop_zero]
  repeat (go_big_quiet_step (fail))
  refine wpQuiet_nil ?_
  rintro _ ⟨nq, rfl⟩
  obtain ⟨k, hk⟩ : ∃ k, l.length - i = k := ⟨_, rfl⟩
  rw [hk] at hc2 ⊢
  unfold cutA at hc2
  obtain ⟨a2, ha2⟩ : ∃ a2, (if bc = i then ba else Option.map (fun x => x.add i) ba) = a2 := ⟨_, rfl⟩
  rw [ha2] at hc2 ⊢
  clear ha2
  have hk3 := hk2.drewN nq
  have hr3 := hr2.drewN nq
  obtain ⟨w5, hcp, ho5, hk5⟩ := run_copy_own 3 (j := k) (BOwn.keeps ho2 ((Keeps.refl (fun _ => False) W).drewN nq) (fun _ _ h => h)) (hc2.keeps ((Keeps.refl (fun _ => False) W).drewN nq) (fun _ _ h => h)) (Nat.min_eq_left (by omega)).symm
  rw [show l.length = k + i by omega] at ho5
  have ho6 := BOwn.first ho5 k (by rw [List.length_append, List.length_take, List.length_drop, List.length_drop]; omega)
  rw [List.take_append_of_le_length (by rw [List.length_take, List.length_drop]; omega), List.take_take, Nat.min_self, List.take_of_length_le (by rw [List.length_drop]; omega)] at ho6
  have hr5 := hr3.keeps hk5 hgb
  have hkF : Keeps (fun b => b = g ∨ (Value.slice ba l.length bc).ownBlock = some b) w w5 := (hk3.mono (fun _ _ h => h.elim)).trans (hk5.mono (fun _ _ h => .inr h)) (fun _ _ h => h)
  have p2' : w5.cell? ⟨g, 2, none⟩ = some (.slice ba l.length bc) := hr5.cell 2
  have p1' : w5.cell? ⟨g, 1, none⟩ = some (.int .i64 first) := hr5.cell 1
  have f2' := hr5.frozen 2
  have f1' := hr5.frozen 1
  have q1 := i64_fit (first + (i : Int)) (by omega) (by omega)
  have hkc : (k : Int) ≤ (bc : Int) := by omega
  have HK := Lib.hid hk
  clear hk
  generalize W.drewN nq = W3 at *
  go_wp2
  go_ret2
  have hr7 : RowAt ((w5.setCell ⟨g, 2, none⟩ (.slice ba k bc)).setCell ⟨g, 1, none⟩ (.int .i64 (first + (i : Int)))) g #[.int .i64 room, .int .i64 (first + (i : Int)), .slice ba k bc] 80 := ((hr5.set 2 _).set 1 _).eq rfl
  have hgk : (Value.slice ba k bc).ownBlock = (Value.slice ba l.length bc).ownBlock := by cases ba <;> rfl
  have hks : Keeps (· = g) w5 ((w5.setCell ⟨g, 2, none⟩ (.slice ba k bc)).setCell ⟨g, 1, none⟩ (.int .i64 (first + (i : Int)))) := ((Keeps.refl (· = g) w5).setCell _ _ (.inl rfl)).setCell _ _ (.inl rfl)
  exact ⟨rfl, (hkF.setCell _ _ (.inl (.inl rfl))).setCell _ _ (.inl (.inl rfl)), _, hr7, ho6.keeps hks (fun b hb e => by subst e; rw [hgk] at hb; exact hgb hb), hgk⟩

set_option maxRecDepth 100000 in
set_option maxHeartbeats 1000000 in
theorem drop_bad (g n c : Nat) (a : Option Addr) (room first at' : Int) (w : World) (hr : RowAt w g #[.int .i64 room, .int .i64 first, .slice a n c] 80) (h1 : 0 ≤ first) (hat : at' ≤ 9223372036854775807) (hbad : at' < first ∨ (n : Int) < at' - first) :
    Calls Try.prog 27 #[.pointer (some ⟨g, 0, none⟩), .int .i64 at'] w fun e w' => e = .returned (.tuple #[.int .i64 0, .int .i64 1]) ∧ ∃ m, w' = w.drewN m := by
  have hpl := Lib.hid (place_bad g n c a room first at' w hr h1 hat hbad)
  clear hbad
  go_enter Try.func27, Try.ntmps27
  go_wp2_with fail
  refine hpl.out.mono ?_
  rintro e w2 ⟨rfl, m, rfl⟩
  go_wp2_with fail
  go_ret2
  exact ⟨rfl, _, rfl⟩

set_option maxRecDepth 100000 in
set_option maxHeartbeats 1000000 in
theorem peek_bad (g n c : Nat) (a : Option Addr) (room first at' k : Int) (w : World) (hr : RowAt w g #[.int .i64 room, .int .i64 first, .slice a n c] 80) (h1 : 0 ≤ first) (h2 : first ≤ 1000000000) (hn : n ≤ 1000000000) (hat : at' ≤ 9223372036854775807) (hbad : at' < first ∨ (n : Int) < at' - first ∨ k < 0) :
    Calls Try.prog 25 #[.pointer (some ⟨g, 0, none⟩), .int .i64 at', .int .i64 k] w fun e w' => e = .returned (.tuple #[.slice none 0 0, .int .i64 1]) ∧ ∃ m, w' = w.drewN m := by
  by_cases hb : at' < first ∨ (n : Int) < at' - first
  · have hpl := Lib.hid (place_bad g n c a room first at' w hr h1 hat hb)
    clear hbad hb
    go_enter Try.func25, Try.ntmps25
    go_wp2_with fail
    refine hpl.out.mono ?_
    rintro e w2 ⟨rfl, m, rfl⟩
    go_wp2_with fail
    go_ret2
    exact ⟨rfl, _, rfl⟩
  · obtain ⟨i, rfl⟩ : ∃ i : Nat, at' = first + i := ⟨(at' - first).toNat, by omega⟩
    have hk : k < 0 := by omega
    have hpl := Lib.hid (place_any g i n c a room first w hr h1 h2 (by omega) hn)
    clear hbad hb
    go_enter Try.func25, Try.ntmps25
    go_wp2_with fail
    refine hpl.out.mono ?_
    rintro e w2 ⟨rfl, m, rfl⟩
    go_wp2_with fail
    go_ret2
    exact ⟨rfl, _, rfl⟩

set_option maxRecDepth 100000 in
set_option maxHeartbeats 1000000 in
theorem peek_any (g i k c : Nat) (a : Option Addr) (room first n : Int) (l : List UInt8) (w : World) (hr : RowAt w g #[.int .i64 room, .int .i64 first, .slice a l.length c] 80) (hb : BRd w (.slice a l.length c) l)
    (h1 : 0 ≤ first) (h2 : first ≤ 1000000000) (hi : i ≤ l.length) (hl : l.length ≤ 1000000) (hn0 : 0 ≤ n) (hn : (k : Int) = if (l.length : Int) - (i : Int) < n then (l.length : Int) - (i : Int) else n) :
    Calls Try.prog 25 #[.pointer (some ⟨g, 0, none⟩), .int .i64 (first + i), .int .i64 n] w fun e w' => ∃ v, e = .returned (.tuple #[v, .int .i64 0]) ∧ BOwn w' w.heap.size v ((l.drop i).take k) ∧ Keeps (fun _ => False) w w' := by
  have hpl := Lib.hid (place_any g i l.length c a room first w hr h1 h2 hi (by omega))
  have p2 : w.cell? ⟨g, 2, none⟩ = some (.slice a l.length c) := hr.cell 2
  obtain ⟨_, _, e, hc1, hc2⟩ := BAt.slice hb
  simp only [Value.slice.injEq, true_and] at e
  obtain ⟨rfl, rfl⟩ := e
  simp only [maxLen] at hc2
  have hkl : k ≤ l.length - i := by split at hn <;> omega
  have hcut := BAt.cutG hb i hi
  unfold cutA at hcut
  have q1 := i64_fit ((l.length : Int) - (i : Int)) (by omega) (by omega)
  have hmn : (if (l.length : Int) - (i : Int) < n then (l.length : Int) - (i : Int) else n) = (k : Int) := hn.symm
  have hn0' : ¬ n < 0 := by omega
  have hil : (i : Int) ≤ (l.length : Int) := by omega
  obtain ⟨D, hD⟩ : ∃ D, l.drop i = D := ⟨_, rfl⟩
  rw [hD] at hcut ⊢
  have hDl : D.length = l.length - i := by rw [← hD, List.length_drop]
  have HN := Lib.hid hn
  have HD := Lib.hid hD
  clear hn hD
  by_cases hci : c = i
  · subst hci
    rw [if_pos rfl] at hcut
    have hcl : l.length - c = 0 := by omega
    rw [show c - c = 0 by omega, hcl] at hcut
    rw [hcl] at hkl
    go_enter Try.func25, Try.ntmps25
    go_wp2_with fail
    refine hpl.out.mono ?_
    rintro e w2 ⟨rfl, m, rfl⟩
    go_wp2_with (refine wpList_make_bytes rfl _ _ rfl w.heap.size k k k k rfl rfl rfl rfl (Nat.le_refl _) (by omega) (Nat.le_refl _) (fun w1 ho1 hk1 => ?_); have p2' := hk1.cell (a := ⟨g, 2, none⟩) (v := .slice a l.length c) p2 (fun h => h); (have ho1' : BOwn w1 w.heap.size (.slice (some ⟨w.heap.size, 0, none⟩) k k) (List.replicate k 0) := ho1); obtain ⟨w5, hcp, ho5, hk5⟩ := run_copy_own 3 (j := k) ho1' (BAt.keeps hcut ((Keeps.refl (fun _ => False) w).drewN m |>.trans hk1 (fun _ _ h => h)) (fun _ _ h => h)) (Nat.min_eq_right hkl).symm)
    rw [List.drop_eq_nil_of_le (by rw [List.length_replicate]; omega), List.append_nil] at ho5
    go_ret2
    exact ⟨_, rfl, ho5, (((Keeps.refl (fun _ => False) w).drewN m).trans hk1 (fun _ _ h => h)).from hk5 (fun b e => by have e' : w.heap.size = b := Option.some.inj e; omega)⟩
  · rw [if_neg hci] at hcut
    go_enter Try.func25, Try.ntmps25
    go_wp2_with fail
    refine hpl.out.mono ?_
    rintro e w2 ⟨rfl, m, rfl⟩
    go_wp2_with (refine wpList_make_bytes rfl _ _ rfl w.heap.size k k k k rfl rfl rfl rfl (Nat.le_refl _) (by omega) (Nat.le_refl _) (fun w1 ho1 hk1 => ?_); have p2' := hk1.cell (a := ⟨g, 2, none⟩) (v := .slice a l.length c) p2 (fun h => h); (have ho1' : BOwn w1 w.heap.size (.slice (some ⟨w.heap.size, 0, none⟩) k k) (List.replicate k 0) := ho1); obtain ⟨w5, hcp, ho5, hk5⟩ := run_copy_own 3 (j := k) ho1' (BAt.keeps hcut ((Keeps.refl (fun _ => False) w).drewN m |>.trans hk1 (fun _ _ h => h)) (fun _ _ h => h)) (Nat.min_eq_right hkl).symm)
    rw [List.drop_eq_nil_of_le (by rw [List.length_replicate]; omega), List.append_nil] at ho5
    go_ret2
    exact ⟨_, rfl, ho5, (((Keeps.refl (fun _ => False) w).drewN m).trans hk1 (fun _ _ h => h)).from hk5 (fun b e => by have e' : w.heap.size = b := Option.some.inj e; omega)⟩
end Go.Proofs.Ytiodmhcmciohnaa

/-! The reference's receiver: has, Room, Read. -/
namespace Go.Proofs.Ytiodmhcmciohnaa
set_option linter.unusedVariables false
set_option linter.unusedSimpArgs false
open Go.RowKit

/-- Bytes with places. -/
abbrev PB := Int × UInt8
def hasQ (Q : List PB) (t : Int) : Option UInt8 := (Q.find? (fun p => p.1 == t)).map (·.2)
def hasV (Q : List PB) (t : Int) : Value := match hasQ Q t with
  | some b => .tuple #[.int .u8 (b.toNat : Int), .bool true]
  | none => .tuple #[.int .u8 0, .bool false]
/-- What the reference's receiver holds. -/
structure RefA (x : Nat) (room : Int) (allv : Value) (taken : Nat) (atv bsv : Value) (all : List UInt8) (Q : List PB) (W : World) : Prop where
  hr : RowAt W x #[.int .i64 room, allv, .int .i64 taken, atv, bsv] 33
  hA : BRd W allv all
  hz : ZRd W atv (Q.map (·.1))
  hb : BRd W bsv (Q.map (·.2))
theorem RefA.keeps {x : Nat} {room : Int} {allv : Value} {taken : Nat} {atv bsv : Value} {all : List UInt8} {Q : List PB} {W W' : World} (h : RefA x room allv taken atv bsv all Q W) (hk : Keeps (fun _ => False) W W') : RefA x room allv taken atv bsv all Q W' :=
  ⟨h.hr.keeps hk (fun h => h), h.hA.keeps hk, h.hz.keeps hk, h.hb.keeps hk⟩

theorem hasQ_miss {Q : List PB} {t : Int} (h : ∀ j (hj : j < Q.length), Q[j].1 ≠ t) : hasQ Q t = none := by
  unfold hasQ
  rw [Option.map_eq_none_iff, List.find?_eq_none]
  intro p hp
  obtain ⟨j, hj, rfl⟩ := List.mem_iff_getElem.1 hp
  simpa using h j hj
theorem hasQ_hit {Q : List PB} {t : Int} {i : Nat} (hi : i < Q.length) (h : ∀ j (hj : j < i), (Q[j]'(by omega)).1 ≠ t) (he : Q[i].1 = t) : hasQ Q t = some Q[i].2 := by
  unfold hasQ
  rw [Option.map_eq_some_iff]
  refine ⟨Q[i], ?_, rfl⟩
  rw [List.find?_eq_some_iff_getElem]
  exact ⟨by simpa using he, i, hi, rfl, fun j hj => by simpa using h j hj⟩

set_option maxRecDepth 100000 in
set_option maxHeartbeats 2000000 in
theorem has_any (x : Nat) (room t : Int) (allv : Value) (taken : Nat) (atv bsv : Value) (all : List UInt8) (Q : List PB) (w : World) (h : RefA x room allv taken atv bsv all Q w) (hQ : Q.length ≤ 1000000) :
    Calls Try.prog 33 #[.pointer (some ⟨x, 0, none⟩), .int .i64 t] w fun e w' => e = .returned (hasV Q t) ∧ w = w' := by
  obtain ⟨za, zc, rfl, hzc, hzm⟩ := ZAt.slice h.hz
  obtain ⟨ba, bc, rfl, hbc, hbm⟩ := BAt.slice h.hb
  rw [List.length_map] at hzc hbc
  have p3 : w.cell? ⟨x, 3, none⟩ = some (.slice za Q.length zc) := by have := h.hr.cell 3; rw [List.length_map] at this; exact this
  have p4 : w.cell? ⟨x, 4, none⟩ = some (.slice ba Q.length bc) := by have := h.hr.cell 4; rw [List.length_map, List.length_map] at this; exact this
  obtain ⟨V, hV⟩ : ∃ V, hasV Q t = V := ⟨_, rfl⟩
  rw [hV]
  have HV := Lib.hid hV
  have HH := Lib.hid h
  clear hV h
  go_enter Try.func33, Try.ntmps33
  go_wp2
  go_loopw [6] (fun u6 wr => ∃ i : Nat, i ≤ Q.length ∧ u6 = .int .i64 i ∧ (∀ j (hj : j < i) (hQj : j < Q.length), (Q[j]'hQj).1 ≠ t) ∧ w = wr) (fun u6 _ => Q.length - (intOf u6).toNat)
  case atStart => exact ⟨0, by omega, rfl, fun j hj => absurd hj (Nat.not_lt_zero _), rfl⟩
  case round =>
    obtain ⟨i, hi, rfl, hm, rfl⟩ := hrel
    have HM := Lib.hid hm
    clear hm
    by_cases hlt : i < Q.length
    · obtain ⟨zb, zo, zc', he, -, -, -, hzcell⟩ := ZAt.get HH.out.hz (by rw [List.length_map]; omega)
      rw [List.length_map] at he
      obtain ⟨rfl, -, rfl⟩ : za = some ⟨zb, zo, none⟩ ∧ True ∧ zc = zc' := by
        simp only [Value.slice.injEq] at he
        exact ⟨by have := he.1; exact this, trivial, he.2.2⟩
      obtain ⟨bb, bo, bc', he2, -, -, -, hbcell⟩ := BAt.get HH.out.hb (by rw [List.length_map]; omega)
      rw [List.length_map] at he2
      obtain ⟨rfl, -, rfl⟩ : ba = some ⟨bb, bo, none⟩ ∧ True ∧ bc = bc' := by
        simp only [Value.slice.injEq] at he2
        exact ⟨he2.1, trivial, he2.2.2⟩
      have z0 := hzcell i (by rw [List.length_map]; omega)
      have b0 := hbcell i (by rw [List.length_map]; omega)
      rw [List.getElem_map] at z0 b0
      obtain ⟨q, hq⟩ : ∃ q, Q[i] = q := ⟨_, rfl⟩
      rw [hq] at z0 b0
      obtain ⟨qa, qb⟩ := q
      simp only at z0 b0
      have HQ := Lib.hid hq
      clear hzcell hbcell he he2 hq
      by_cases heq : qa = t
      · subst heq
        have hres : hasV Q qa = .tuple #[.int .u8 (qb.toNat : Int), .bool true] := by
          have := hasQ_hit hlt (fun j hj => HM.out j hj (by omega)) (by rw [HQ.out])
          unfold hasV
          rw [this, HQ.out]
        rw [HV.out] at hres
        subst hres
        go_wp2
        go_ret2
        exact ⟨rfl, rfl⟩
      · have heq2 : (qa == t) = false := beq_eq_false_iff_ne.2 heq
        go_wp2
        go_roundw
        case rel =>
          have hm2 : ∀ j (hj : j < i + 1) (hQj : j < Q.length), (Q[j]'hQj).1 ≠ t := fun j hj hQj => by
            rcases Nat.lt_succ_iff_lt_or_eq.1 hj with h | rfl
            · exact HM.out j h hQj
            · rw [HQ.out]; exact heq
          exact ⟨i + 1, by omega, by go_num, hm2, trivial⟩
        case measure => simp [intOf]; omega
    · obtain rfl : i = Q.length := by omega
      have hres : hasV Q t = .tuple #[.int .u8 0, .bool false] := by
        have := hasQ_miss (fun j hj => HM.out j hj hj)
        unfold hasV
        rw [this]
      rw [HV.out] at hres
      subst hres
      go_wp2
      go_ret2
      exact ⟨rfl, rfl⟩

set_option maxRecDepth 100000 in
set_option maxHeartbeats 1000000 in
theorem rroom_any (x : Nat) (room : Int) (allv : Value) (taken : Nat) (atv bsv : Value) (all : List UInt8) (Q : List PB) (w : World) (h : RefA x room allv taken atv bsv all Q w) (h1 : 0 ≤ room) (h2 : room ≤ 100000) (h3 : all.length ≤ 1000000) (h4 : taken ≤ all.length) :
    Calls Try.prog 18 #[.pointer (some ⟨x, 0, none⟩)] w fun e w' => e = .returned (.int .i64 (room - ((all.length : Int) - (taken : Int)))) ∧ ∃ m, w' = w.drewN m := by
  obtain ⟨aa, ac, rfl, -, -⟩ := BAt.slice h.hA
  have p0 : w.cell? ⟨x, 0, none⟩ = some (.int .i64 room) := h.hr.cell 0
  have p1 : w.cell? ⟨x, 1, none⟩ = some (.slice aa all.length ac) := h.hr.cell 1
  have p2 : w.cell? ⟨x, 2, none⟩ = some (.int .i64 taken) := h.hr.cell 2
  have q1 := i64_fit ((all.length : Int) - (taken : Int)) (by omega) (by omega)
  have q2 := i64_fit (room - ((all.length : Int) - (taken : Int))) (by omega) (by omega)
  go_enter Try.func18, Try.ntmps18
  go_wp2
  go_quiet (fail)
  go_wp2
  go_ret
  exact ⟨rfl, _, rfl⟩
end Go.Proofs.Ytiodmhcmciohnaa

/-! The plain law of FlowGets: which byte lies at which place. -/
namespace Go.Proofs.Ytiodmhcmciohnaa
set_option linter.unusedVariables false
set_option linter.unusedSimpArgs false
open Go.RowKit

/-- The byte of a part at a place. -/
def pb (q : Pt) (t : Int) : Option UInt8 := if q.1 ≤ t ∧ t < endF q then q.2[(t - q.1).toNat]? else none
def cover (L : List Pt) (t : Int) : Option UInt8 := L.findSome? (fun q => pb q t)
theorem cover_append (L M : List Pt) (t : Int) : cover (L ++ M) t = (cover L t).or (cover M t) := List.findSome?_append
theorem cover_one (q : Pt) (t : Int) : cover [q] t = pb q t := by
  unfold cover
  simp only [List.findSome?_cons, List.findSome?_nil]
  cases pb q t <;> rfl
theorem cover_nil (t : Int) : cover [] t = none := rfl
theorem cover_cons (q : Pt) (L : List Pt) (t : Int) : cover (q :: L) t = (pb q t).or (cover L t) := by
  rw [← cover_one q t, ← cover_append]; rfl
theorem pb_none {q : Pt} {t : Int} (h : t < q.1 ∨ endF q ≤ t) : pb q t = none := by
  unfold pb
  rw [if_neg (by omega)]
theorem pb_some {q : Pt} {t : Int} (h : q.1 ≤ t) (h' : t < endF q) : ∃ b, pb q t = some b := by
  unfold pb endF at *
  rw [if_pos ⟨h, h'⟩, List.getElem?_eq_getElem (by omega)]
  exact ⟨_, rfl⟩
theorem pb_in {q : Pt} {t : Int} {b : UInt8} (h : pb q t = some b) : q.1 ≤ t ∧ t < endF q := by
  unfold pb at h
  split at h
  next hc => exact hc
  · cases h
theorem cover_none {L : List Pt} {t : Int} (h : ∀ r ∈ L, t < r.1 ∨ endF r ≤ t) : cover L t = none := by
  unfold cover
  rw [List.findSome?_eq_none_iff]
  exact fun r hr => pb_none (h r hr)

/-- Parts that lie apart, none of them empty, from a place on. -/
structure Sep (x : Int) (L : List Pt) : Prop where
  sep : L.Pairwise (fun a b => endF a < b.1)
  low : ∀ q ∈ L, x ≤ q.1
  ne : ∀ q ∈ L, q.2 ≠ []
theorem addF_sep {x : Int} {L : List Pt} {q : Pt} (h : Sep x L) (hq : x ≤ q.1) : Sep x (addF L q) := by
  rcases List.eq_nil_or_concat L with rfl | ⟨K, l, rfl⟩
  · unfold addF
    simp only [List.getLast?_nil]
    split
    · exact ⟨List.Pairwise.nil, fun _ h => (by cases h), fun _ h => (by cases h)⟩
    next h0 =>
      refine ⟨List.pairwise_singleton _ _, fun r hr => ?_, fun r hr => ?_⟩
      · obtain rfl : r = q := by simpa using hr
        exact hq
      · obtain rfl : r = q := by simpa using hr
        simpa using h0
  · simp only [List.concat_eq_append] at *
    rw [addF_last]
    obtain ⟨hs, ho, hn⟩ := h
    have hl := ho l (by simp)
    have hln := hn l (by simp)
    rw [List.pairwise_append] at hs
    obtain ⟨hs1, -, hs3⟩ := hs
    have old : Sep x (K ++ [l]) := ⟨List.pairwise_append.2 ⟨hs1, List.pairwise_singleton _ _, hs3⟩, ho, hn⟩
    split
    next hle =>
      split
      next hm =>
        refine ⟨List.pairwise_append.2 ⟨hs1, List.pairwise_singleton _ _, fun a ha b hb => ?_⟩, fun r hr => ?_, fun r hr => ?_⟩
        · obtain rfl := List.mem_singleton.1 hb
          exact hs3 a ha l (by simp)
        · rcases List.mem_append.1 hr with hr | hr
          · exact ho r (List.mem_append_left _ hr)
          · obtain rfl := List.mem_singleton.1 hr
            exact hl
        · rcases List.mem_append.1 hr with hr | hr
          · exact hn r (List.mem_append_left _ hr)
          · obtain rfl := List.mem_singleton.1 hr
            simp [hln]
      · exact old
    next hgt =>
      split
      · exact old
      next h0 =>
        refine ⟨List.pairwise_append.2 ⟨old.sep, List.pairwise_singleton _ _, fun a ha b hb => ?_⟩, fun r hr => ?_, fun r hr => ?_⟩
        · obtain rfl := List.mem_singleton.1 hb
          have hlq : endF l < b.1 := by omega
          rcases List.mem_append.1 ha with ha | ha
          · have h1 := hs3 a ha l (by simp)
            unfold endF at *
            omega
          · obtain rfl := List.mem_singleton.1 ha
            exact hlq
        · rcases List.mem_append.1 hr with hr | hr
          · exact ho r hr
          · obtain rfl := List.mem_singleton.1 hr
            exact hq
        · rcases List.mem_append.1 hr with hr | hr
          · exact hn r hr
          · obtain rfl := List.mem_singleton.1 hr
            simpa using h0
/-- The places of what comes of it. -/
theorem addF_at {L : List Pt} {q : Pt} : ∀ r ∈ addF L q, (∃ s ∈ L, r.1 = s.1) ∨ r.1 = q.1 := by
  rcases List.eq_nil_or_concat L with rfl | ⟨K, l, rfl⟩
  · intro r hr
    unfold addF at hr
    simp only [List.getLast?_nil] at hr
    split at hr
    · cases hr
    · obtain rfl : r = q := by simpa using hr
      exact .inr rfl
  · simp only [List.concat_eq_append] at *
    intro r hr
    rw [addF_last] at hr
    split at hr
    · split at hr
      · rcases List.mem_append.1 hr with hr | hr
        · exact .inl ⟨r, List.mem_append_left _ hr, rfl⟩
        · obtain rfl := List.mem_singleton.1 hr
          exact .inl ⟨l, by simp, rfl⟩
      · exact .inl ⟨r, hr, rfl⟩
    · split at hr
      · exact .inl ⟨r, hr, rfl⟩
      · rcases List.mem_append.1 hr with hr | hr
        · exact .inl ⟨r, hr, rfl⟩
        · obtain rfl := List.mem_singleton.1 hr
          exact .inr rfl
theorem addF_end {L : List Pt} {q : Pt} {m : Int} (h : ∀ r ∈ L, endF r ≤ m) (hq : endF q ≤ m) : ∀ r ∈ addF L q, endF r ≤ m := by
  rcases List.eq_nil_or_concat L with rfl | ⟨K, l, rfl⟩
  · intro r hr
    unfold addF at hr
    simp only [List.getLast?_nil] at hr
    split at hr
    · cases hr
    · obtain rfl : r = q := by simpa using hr
      exact hq
  · simp only [List.concat_eq_append] at *
    intro r hr
    rw [addF_last] at hr
    split at hr
    next hle =>
      split at hr
      next hm =>
        rcases List.mem_append.1 hr with hr | hr
        · exact h r (List.mem_append_left _ hr)
        · obtain rfl := List.mem_singleton.1 hr
          unfold endF at *
          simp only [List.length_append, List.length_drop]
          omega
      · exact h r hr
    · split at hr
      · exact h r hr
      · rcases List.mem_append.1 hr with hr | hr
        · exact h r hr
        · obtain rfl := List.mem_singleton.1 hr
          exact hq
theorem pb_ext {l q : Pt} (h1 : l.1 ≤ q.1) (h2 : q.1 ≤ endF l) (t : Int) (hm : (endF l - q.1).toNat < q.2.length) : pb (l.1, l.2 ++ q.2.drop (endF l - q.1).toNat) t = (pb l t).or (pb q t) := by
  by_cases c1 : l.1 ≤ t
  · by_cases c2 : t < endF l
    · obtain ⟨b, hb⟩ := pb_some c1 c2
      rw [hb]
      unfold pb endF at *
      rw [if_pos ⟨c1, c2⟩] at hb
      rw [if_pos (by simp only [List.length_append, List.length_drop]; omega), List.getElem?_append_left (by omega), hb]
      rfl
    · rw [pb_none (q := l) (by omega), Option.none_or]
      unfold pb endF at *
      by_cases c3 : t < q.1 + q.2.length
      · rw [if_pos (by simp only [List.length_append, List.length_drop]; omega), if_pos (by omega), List.getElem?_append_right (by omega), List.getElem?_drop]
        congr 1
        omega
      · rw [if_neg (by simp only [List.length_append, List.length_drop]; omega), if_neg (by omega)]
  · rw [pb_none (q := l) (by omega), pb_none (q := q) (by omega), pb_none (by omega)]
    rfl
theorem addF_cover {L : List Pt} {q : Pt} (h : ∀ r ∈ L, r.1 ≤ q.1) (t : Int) : cover (addF L q) t = (cover L t).or (pb q t) := by
  have hempty : q.2 = [] → pb q t = none := fun e => pb_none (by unfold endF; rw [e]; simp only [List.length_nil]; omega)
  rcases List.eq_nil_or_concat L with rfl | ⟨K, l, rfl⟩
  · unfold addF
    simp only [List.getLast?_nil]
    split
    next h0 => rw [hempty h0]; rfl
    · rw [List.nil_append, cover_one, cover_nil, Option.none_or]
  · simp only [List.concat_eq_append] at *
    rw [addF_last]
    split
    next hle =>
      split
      next hm =>
        rw [cover_append, cover_append, cover_one, cover_one, pb_ext (h l (by simp)) hle t hm, Option.or_assoc]
      next hm =>
        rw [cover_append, cover_one]
        have hlq := h l (by simp)
        cases hp : pb q t with
        | none => rw [Option.or_none]
        | some b =>
          obtain ⟨i1, i2⟩ := pb_in hp
          obtain ⟨b', hb'⟩ := pb_some (q := l) (t := t) (by omega) (by unfold endF at *; omega)
          rw [hb']
          cases cover K t <;> rfl
    · split
      next h0 => rw [hempty h0, Option.or_none]
      · rw [cover_append (K ++ [l]) [q], cover_one]
end Go.Proofs.Ytiodmhcmciohnaa

/-! The plain law of FlowGets: merging is a union of bytes; a scan gives the parts back. -/
namespace Go.Proofs.Ytiodmhcmciohnaa
set_option linter.unusedVariables false
set_option linter.unusedSimpArgs false
open Go.RowKit

theorem endF_ge (q : Pt) : q.1 ≤ endF q := by unfold endF; omega
/-- What holds while one more part is merged: M have been gone through. -/
structure CovOk (x : Int) (p : Pt) (M rest : List Pt) (st : List Pt × Int) : Prop where
  sep : Sep x st.1
  low : p.1 ≤ st.2
  ends : ∀ r ∈ st.1, endF r ≤ st.2
  endM : ∀ r ∈ M, endF r ≤ st.2
  at' : st.2 = p.1 ∨ ∃ r ∈ M, st.2 = endF r
  ahead : ∀ r ∈ st.1, ∀ q ∈ rest, r.1 ≤ q.1
  cov : ∀ t, t < st.2 → cover st.1 t = (cover M t).or (pb p t)
theorem CovOk.none {x : Int} {p : Pt} {M rest : List Pt} {st : List Pt × Int} (h : CovOk x p M rest st) {t : Int} (ht : st.2 ≤ t) : cover st.1 t = none ∧ cover M t = none :=
  ⟨cover_none fun r hr => .inr (Int.le_trans (h.ends r hr) ht), cover_none fun r hr => .inr (Int.le_trans (h.endM r hr) ht)⟩
theorem pb_piece {p : Pt} {a b : Int} (h1 : p.1 ≤ a) (h2 : a ≤ b) (h3 : b ≤ endF p) (t : Int) : pb (a, (p.2.drop (a - p.1).toNat).take ((b - p.1).toNat - (a - p.1).toNat)) t = if a ≤ t ∧ t < b then pb p t else none := by
  unfold pb endF at *
  have hl : ((p.2.drop (a - p.1).toNat).take ((b - p.1).toNat - (a - p.1).toNat)).length = (b - a).toNat := by rw [List.length_take, List.length_drop]; omega
  simp only [hl]
  by_cases c : a ≤ t ∧ t < b
  · rw [if_pos c, if_pos (by omega), if_pos (by omega), List.getElem?_take_of_lt (by omega), List.getElem?_drop]
    congr 1
    omega
  · rw [if_neg c, if_neg (by omega)]
theorem stepF_cov {x : Int} {p q : Pt} {M rest : List Pt} {st : List Pt × Int} (hp : x ≤ p.1) (hx : x ≤ q.1) (hM : ∀ r ∈ M, endF r < q.1) (hqr : ∀ r ∈ rest, endF q < r.1) (hMr : ∀ r ∈ M, ∀ s ∈ rest, endF r < s.1) (h : CovOk x p M (q :: rest) st) :
    CovOk x p (M ++ [q]) rest (stepF p st q) := by
  have hlow := h.low
  have hqe := endF_ge q
  have hatq : ∀ r ∈ st.1, r.1 ≤ q.1 := fun r hr => h.ahead r hr q List.mem_cons_self
  have hcov : ∀ t, cover (M ++ [q]) t = (cover M t).or (pb q t) := fun t => by rw [cover_append, cover_one]
  unfold stepF
  by_cases hc : st.2 < q.1 ∧ st.2 < endF p
  · rw [if_pos hc]
    have hmin : min q.1 (endF p) ≤ endF p ∧ st.2 ≤ min q.1 (endF p) ∧ min q.1 (endF p) ≤ q.1 := by omega
    obtain ⟨pc, hpc⟩ : ∃ pc : Pt, (st.2, (p.2.drop (st.2 - p.1).toNat).take ((min q.1 (endF p) - p.1).toNat - (st.2 - p.1).toNat)) = pc := ⟨_, rfl⟩
    have hpb : ∀ t, pb pc t = if st.2 ≤ t ∧ t < min q.1 (endF p) then pb p t else none := fun t => by rw [← hpc]; exact pb_piece hlow hmin.2.1 hmin.1 t
    have hp1 : pc.1 = st.2 := by rw [← hpc]
    have hpe : endF pc ≤ q.1 := by
      rw [← hpc]
      unfold endF at *
      simp only [List.length_take, List.length_drop]
      omega
    rw [hpc]
    have hA : ∀ r ∈ st.1, r.1 ≤ pc.1 := fun r hr => by have := h.ends r hr; have := endF_ge r; omega
    have hB : ∀ r ∈ addF st.1 pc, r.1 ≤ q.1 := fun r hr => by
      rcases addF_at r hr with ⟨s, hs, e⟩ | e
      · rw [e]; exact hatq s hs
      · rw [e]; omega
    have hmx : max st.2 (endF q) = endF q := by omega
    refine ⟨addF_sep (addF_sep h.sep (by omega)) hx, by omega, ?_, ?_, ?_, ?_, ?_⟩
    · exact addF_end (addF_end (fun r hr => by have := h.ends r hr; show _ ≤ max _ _; omega) (by show _ ≤ max _ _; omega)) (by show _ ≤ max _ _; omega)
    · intro r hr
      rcases List.mem_append.1 hr with hr | hr
      · have := h.endM r hr; show _ ≤ max _ _; omega
      · obtain rfl := List.mem_singleton.1 hr
        show _ ≤ max _ _; omega
    · exact .inr ⟨q, by simp, hmx⟩
    · intro r hr s hs
      have h1 := hqr s hs
      rcases addF_at r hr with ⟨u, hu, e⟩ | e
      · have := hB u hu; omega
      · omega
    · intro t ht
      have ht' : t < endF q := by have : t < max st.2 (endF q) := ht; omega
      rw [addF_cover hB, addF_cover hA, hpb, hcov]
      by_cases c1 : t < st.2
      · rw [if_neg (by omega), h.cov t c1, pb_none (q := q) (by omega), Option.or_none, Option.or_none, Option.or_none]
      · obtain ⟨e1, e2⟩ := h.none (t := t) (by omega)
        rw [e1, e2, Option.none_or, Option.none_or]
        by_cases c2 : t < q.1
        · rw [pb_none (q := q) (by omega), Option.or_none, Option.none_or]
          by_cases c3 : t < endF p
          · rw [if_pos (by omega)]
          · rw [if_neg (by omega), pb_none (by omega)]
        · rw [if_neg (by omega), Option.none_or]
          obtain ⟨b, hb⟩ := pb_some (q := q) (t := t) (by omega) ht'
          rw [hb]
          rfl
  · rw [if_neg hc]
    refine ⟨addF_sep h.sep hx, by show p.1 ≤ max _ _; omega, ?_, ?_, ?_, ?_, ?_⟩
    · exact addF_end (fun r hr => by have := h.ends r hr; show _ ≤ max _ _; omega) (by show _ ≤ max _ _; omega)
    · intro r hr
      rcases List.mem_append.1 hr with hr | hr
      · have := h.endM r hr; show _ ≤ max _ _; omega
      · obtain rfl := List.mem_singleton.1 hr
        show _ ≤ max _ _; omega
    · by_cases c : st.2 ≤ endF q
      · exact .inr ⟨q, by simp, by show max _ _ = _; omega⟩
      · have hmx : max st.2 (endF q) = st.2 := by omega
        rcases h.at' with e | ⟨r, hr, e⟩
        · exact .inl (by show max _ _ = _; omega)
        · exact .inr ⟨r, by simp [hr], by show max _ _ = _; omega⟩
    · intro r hr s hs
      have h1 := hqr s hs
      rcases addF_at r hr with ⟨u, hu, e⟩ | e
      · have := hatq u hu; omega
      · omega
    · intro t ht
      have ht2 : t < max st.2 (endF q) := ht
      rw [addF_cover hatq, hcov]
      by_cases c1 : t < st.2
      · rw [h.cov t c1]
        by_cases c2 : q.1 ≤ t
        · have hpn : pb p t = none := by
            rcases h.at' with e | ⟨r, hr, e⟩
            · exact pb_none (by omega)
            · have := hM r hr; omega
          rw [hpn, Option.or_none, Option.or_none]
        · rw [pb_none (q := q) (by omega), Option.or_none, Option.or_none]
      · obtain ⟨e1, e2⟩ := h.none (t := t) (by omega)
        rw [e1, e2, Option.none_or]
        by_cases c2 : q.1 ≤ t
        · obtain ⟨b, hb⟩ := pb_some (q := q) (t := t) c2 (by omega)
          rw [hb]
          rfl
        · rw [pb_none (q := q) (by omega), pb_none (q := p) (by omega)]
          rfl
theorem fold_cov {x : Int} {p : Pt} (hp : x ≤ p.1) : ∀ (rest M : List Pt) (st : List Pt × Int), (∀ r ∈ rest, x ≤ r.1) → rest.Pairwise (fun a b => endF a < b.1) → (∀ r ∈ M, ∀ s ∈ rest, endF r < s.1) → CovOk x p M rest st → CovOk x p (M ++ rest) [] (rest.foldl (stepF p) st)
  | [], M, st, _, _, _, h => by rw [List.append_nil]; exact h
  | q :: rest, M, st, hx, hs, hM, h => by
    have hs' := List.pairwise_cons.1 hs
    have h1 := stepF_cov (rest := rest) hp (hx q List.mem_cons_self) (fun r hr => hM r hr q List.mem_cons_self) hs'.1 (fun r hr s hs => hM r hr s (List.mem_cons_of_mem _ hs)) h
    have h2 := fold_cov hp rest (M ++ [q]) _ (fun r hr => hx r (List.mem_cons_of_mem _ hr)) hs'.2 (fun r hr s hsr => by
      rcases List.mem_append.1 hr with hr | hr
      · exact hM r hr s (List.mem_cons_of_mem _ hsr)
      · have hrq := List.mem_singleton.1 hr
        rw [hrq]
        exact hs'.1 s hsr) h1
    rw [List.append_assoc] at h2
    exact h2
/-- Merging is a union of bytes; what was there comes first. -/
theorem mergeF_cover {x : Int} {p : Pt} {L : List Pt} (hp : x ≤ p.1) (hL : Sep x L) : Sep x (mergeF L p) ∧ ∀ t, cover (mergeF L p) t = (cover L t).or (pb p t) := by
  have h := fold_cov hp L [] ([], p.1) hL.low hL.sep (fun _ h => by cases h) ⟨⟨List.Pairwise.nil, fun _ h => (by cases h), fun _ h => (by cases h)⟩, Int.le_refl _, fun _ h => (by cases h), fun _ h => (by cases h), .inl rfl, fun _ h => (by cases h), fun t ht => by rw [cover_nil, pb_none (by exact .inl ht)]; rfl⟩
  rw [List.nil_append] at h
  obtain ⟨st, hst⟩ : ∃ st, L.foldl (stepF p) ([], p.1) = st := ⟨_, rfl⟩
  rw [hst] at h
  have hm : mergeF L p = endsF p st := by unfold mergeF; rw [hst]
  rw [hm]
  unfold endsF
  by_cases hc : st.2 < endF p
  · rw [if_pos hc]
    have hlow := h.low
    have hA : ∀ r ∈ st.1, r.1 ≤ st.2 := fun r hr => Int.le_trans (endF_ge r) (h.ends r hr)
    refine ⟨addF_sep h.sep (by show x ≤ st.2; omega), fun t => ?_⟩
    have hpb := pb_piece (p := p) (a := st.2) (b := endF p) hlow (by omega) (Int.le_refl _) t
    rw [List.take_of_length_le (by rw [List.length_drop]; unfold endF; omega)] at hpb
    rw [addF_cover hA, hpb]
    by_cases c1 : t < st.2
    · rw [if_neg (by omega), Option.or_none, h.cov t c1]
    · obtain ⟨e1, e2⟩ := h.none (t := t) (by omega)
      rw [e1, e2, Option.none_or, Option.none_or]
      by_cases c2 : t < endF p
      · rw [if_pos (by omega)]
      · rw [if_neg (by omega), pb_none (by omega)]
  · rw [if_neg hc]
    refine ⟨h.sep, fun t => ?_⟩
    by_cases c1 : t < st.2
    · exact h.cov t c1
    · obtain ⟨e1, e2⟩ := h.none (t := t) (by omega)
      rw [e1, e2, pb_none (q := p) (by omega)]
      rfl

/-- One place of a scan. -/
def scan1 (f : Int → Option UInt8) (t : Int) (acc : List Pt) : List Pt := match f t with
  | none => acc
  | some b => match acc.getLast? with
    | some l => if endF l = t then acc.dropLast ++ [(l.1, l.2 ++ [b])] else acc ++ [(t, [b])]
    | none => acc ++ [(t, [b])]
def scanF (f : Int → Option UInt8) : Nat → Int → List Pt → List Pt
  | 0, _, acc => acc
  | n + 1, t, acc => scanF f n (t + 1) (scan1 f t acc)
theorem scanF_add (f : Int → Option UInt8) : ∀ (a b : Nat) (t : Int) (acc : List Pt), scanF f (a + b) t acc = scanF f b (t + a) (scanF f a t acc)
  | 0, b, t, acc => by simp [scanF]
  | a + 1, b, t, acc => by
    rw [show a + 1 + b = (a + b) + 1 by omega]
    show scanF f (a + b) (t + 1) (scan1 f t acc) = _
    rw [scanF_add f a b (t + 1) _, show t + 1 + (a : Int) = t + ((a + 1 : Nat) : Int) by omega]
    rfl
theorem scanF_gap (f : Int → Option UInt8) : ∀ (n : Nat) (t : Int) (acc : List Pt), (∀ i : Nat, i < n → f (t + i) = none) → scanF f n t acc = acc
  | 0, _, _, _ => rfl
  | n + 1, t, acc, h => by
    have h0 : f t = none := by have := h 0 (by omega); simpa using this
    show scanF f n (t + 1) (scan1 f t acc) = acc
    have h1 : scan1 f t acc = acc := by unfold scan1; rw [h0]
    rw [h1]
    exact scanF_gap f n (t + 1) acc (fun i hi => by rw [show t + 1 + (i : Int) = t + ((i + 1 : Nat) : Int) by omega]; exact h (i + 1) (by omega))
theorem scanF_grow (f : Int → Option UInt8) (K : List Pt) (a : Int) : ∀ (d e : List UInt8) (t : Int), t = a + e.length → (∀ (i : Nat) (hi : i < d.length), f (t + i) = some d[i]) → scanF f d.length t (K ++ [(a, e)]) = K ++ [(a, e ++ d)]
  | [], e, t, _, _ => by simp [scanF]
  | b :: d, e, t, ht, h => by
    have h0 : f t = some b := by have := h 0 (by simp); simpa using this
    have h1 : scan1 f t (K ++ [(a, e)]) = K ++ [(a, e ++ [b])] := by
      unfold scan1
      rw [h0]
      simp only [List.getLast?_concat, List.dropLast_concat]
      rw [if_pos (by unfold endF; exact ht.symm)]
    show scanF f d.length (t + 1) (scan1 f t (K ++ [(a, e)])) = _
    rw [h1, scanF_grow f K a d (e ++ [b]) (t + 1) (by rw [ht]; simp; omega) (fun i hi => by
      rw [show t + 1 + (i : Int) = t + ((i + 1 : Nat) : Int) by omega]
      have := h (i + 1) (by simp; omega)
      simpa using this)]
    simp
/-- A scan over the bytes of parts that lie apart gives them back. -/
theorem scanF_parts (f : Int → Option UInt8) : ∀ (L : List Pt) (n : Nat) (x : Int) (acc : List Pt), Sep x L → (∀ r ∈ L, endF r ≤ x + n) → (∀ t, x ≤ t → f t = cover L t) → (∀ l, acc.getLast? = some l → endF l < x ∨ ∀ r ∈ L, endF l < r.1) → scanF f n x acc = acc ++ L
  | [], n, x, acc, _, _, hf, _ => by
    rw [List.append_nil]
    exact scanF_gap f n x acc (fun i _ => by rw [hf _ (by omega)]; rfl)
  | q :: L, n, x, acc, hs, he, hf, hl => by
    have hq := hs.low q List.mem_cons_self
    have hqe := he q List.mem_cons_self
    have hqn := List.length_pos_iff.2 (hs.ne q List.mem_cons_self)
    have hsep := List.pairwise_cons.1 hs.sep
    obtain ⟨a, d⟩ := q
    simp only at hq hqn
    have hend : endF (a, d) = a + d.length := rfl
    obtain ⟨b, d', rfl⟩ := List.exists_cons_of_ne_nil (List.length_pos_iff.1 hqn)
    have hbyte : ∀ (i : Nat) (hi : i < (b :: d').length), f (a + i) = some (b :: d')[i] := fun i hi => by
      rw [hf _ (by omega), cover_cons]
      have : pb (a, b :: d') (a + i) = some (b :: d')[i] := by
        unfold pb
        rw [hend, if_pos (by simp only at *; omega)]
        rw [show (a + (i : Int) - a).toNat = i by omega, List.getElem?_eq_getElem hi]
      rw [this]
      rfl
    have hgap : ∀ i : Nat, i < (a - x).toNat → f (x + i) = none := fun i hi => by
      rw [hf _ (by omega)]
      refine cover_none fun r hr => .inl ?_
      rcases List.mem_cons.1 hr with rfl | hr
      · show x + (i : Int) < a; omega
      · have := hsep.1 r hr
        rw [hend] at this
        omega
    obtain ⟨m, hm⟩ : ∃ m : Nat, n = (a - x).toNat + ((b :: d').length + m) := ⟨n - (a - x).toNat - (b :: d').length, by rw [hend] at hqe; omega⟩
    rw [hm, scanF_add, scanF_gap f _ x acc hgap, show x + ((a - x).toNat : Int) = a by omega, scanF_add]
    have hfirst : scanF f (b :: d').length a acc = acc ++ [(a, b :: d')] := by
      have h0 := hbyte 0 (by simp)
      have h1 : scan1 f a acc = acc ++ [(a, [b])] := by
        unfold scan1
        rw [show f a = some b by simpa using h0]
        dsimp only
        cases hg : acc.getLast? with
        | none => rfl
        | some l =>
          dsimp only
          rw [if_neg (by
            rcases hl l hg with h | h
            · omega
            · have := h (a, b :: d') List.mem_cons_self
              simp only at this
              omega)]
      show scanF f d'.length (a + 1) (scan1 f a acc) = _
      rw [h1, scanF_grow f acc a d' [b] (a + 1) (by simp) (fun i hi => by
        rw [show a + 1 + (i : Int) = a + ((i + 1 : Nat) : Int) by omega]
        have := hbyte (i + 1) (by simp; omega)
        simpa using this)]
      rfl
    rw [hfirst]
    have hrec := scanF_parts f L m (a + (b :: d').length) (acc ++ [(a, b :: d')]) ⟨hsep.2, fun r hr => by have := hsep.1 r hr; rw [hend] at this; omega, fun r hr => hs.ne r (List.mem_cons_of_mem _ hr)⟩ (fun r hr => by have := he r (List.mem_cons_of_mem _ hr); omega)
      (fun t ht => by
        rw [hf t (by omega), cover_cons, pb_none (.inr (by rw [hend]; omega)), Option.none_or])
      (fun l hg => .inr fun r hr => by
        rw [List.getLast?_concat] at hg
        obtain rfl := Option.some.inj hg
        exact hsep.1 r hr)
    rw [hrec, List.append_assoc]
    rfl
end Go.Proofs.Ytiodmhcmciohnaa

/-! What the reference's Put adds: plainly. -/
namespace Go.Proofs.Ytiodmhcmciohnaa
set_option linter.unusedVariables false
set_option linter.unusedSimpArgs false
open Go.RowKit

/-- One byte more, where its place is in the window and no byte is there. -/
def add1 (next lim : Int) (Q : List PB) (t : Int) (b : UInt8) : List PB := if next ≤ t ∧ t < lim ∧ hasQ Q t = none then Q ++ [(t, b)] else Q
def addQ (next lim : Int) : List PB → Int → List UInt8 → List PB
  | Q, _, [] => Q
  | Q, t, b :: d => addQ next lim (add1 next lim Q t b) (t + 1) d
theorem addQ_snoc (next lim : Int) : ∀ (d : List UInt8) (Q : List PB) (t : Int) (b : UInt8), addQ next lim Q t (d ++ [b]) = add1 next lim (addQ next lim Q t d) (t + d.length) b
  | [], Q, t, b => by simp [addQ]
  | c :: d, Q, t, b => by
    show addQ next lim (add1 next lim Q t c) (t + 1) (d ++ [b]) = _
    rw [addQ_snoc next lim d _ (t + 1) b, show t + 1 + (d.length : Int) = t + ((c :: d).length : Int) by simp; omega]
    rfl
theorem add1_len (next lim : Int) (Q : List PB) (t : Int) (b : UInt8) : (add1 next lim Q t b).length ≤ Q.length + 1 := by
  unfold add1
  split <;> simp
theorem addQ_len (next lim : Int) : ∀ (d : List UInt8) (Q : List PB) (t : Int), (addQ next lim Q t d).length ≤ Q.length + d.length
  | [], Q, t => by simp [addQ]
  | b :: d, Q, t => by
    have h1 := addQ_len next lim d (add1 next lim Q t b) (t + 1)
    have h2 := add1_len next lim Q t b
    show (addQ next lim (add1 next lim Q t b) (t + 1) d).length ≤ _
    simp only [List.length_cons]
    omega


theorem hasQ_snoc (Q : List PB) (t u : Int) (b : UInt8) : hasQ (Q ++ [(t, b)]) u = (hasQ Q u).or (if t = u then some b else none) := by
  unfold hasQ
  rw [List.find?_append]
  cases h : Q.find? (fun p => p.1 == u) with
  | some p => rfl
  | none =>
    rw [Option.none_or]
    by_cases e : t = u
    · subst e
      simp
    · simp [e]
theorem hasQ_add1 (next lim : Int) (Q : List PB) (t u : Int) (b : UInt8) : hasQ (add1 next lim Q t b) u = (hasQ Q u).or (if t = u ∧ next ≤ t ∧ t < lim then some b else none) := by
  unfold add1
  by_cases c : next ≤ t ∧ t < lim ∧ hasQ Q t = none
  · rw [if_pos c, hasQ_snoc]
    by_cases e : t = u
    · rw [if_pos e, if_pos ⟨e, c.1, c.2.1⟩]
    · rw [if_neg e, if_neg (fun h => e h.1)]
  · rw [if_neg c]
    by_cases e : t = u ∧ next ≤ t ∧ t < lim
    · rw [if_pos e]
      obtain ⟨rfl, h1, h2⟩ := e
      cases h : hasQ Q t with
      | none => exact absurd ⟨h1, h2, h⟩ c
      | some x => rfl
    · rw [if_neg e, Option.or_none]
/-- The bytes of the window, behind what was there. -/
theorem hasQ_addQ (next lim : Int) : ∀ (d : List UInt8) (Q : List PB) (t u : Int), hasQ (addQ next lim Q t d) u = (hasQ Q u).or (if next ≤ u ∧ u < lim then pb (t, d) u else none)
  | [], Q, t, u => by
    have : pb (t, []) u = none := pb_none (by unfold endF; simp only [List.length_nil]; omega)
    rw [this]
    simp [addQ]
  | b :: d, Q, t, u => by
    show hasQ (addQ next lim (add1 next lim Q t b) (t + 1) d) u = _
    rw [hasQ_addQ next lim d, hasQ_add1, Option.or_assoc]
    congr 1
    by_cases w : next ≤ u ∧ u < lim
    · rw [if_pos w, if_pos w]
      by_cases e : t = u
      · subst e
        have e1 : pb (t + 1, d) t = none := pb_none (.inl (by show t < t + 1; omega))
        have e2 : pb (t, b :: d) t = some b := by
          unfold pb endF
          rw [if_pos (by simp only [List.length_cons]; omega)]
          simp
        rw [if_pos ⟨rfl, w.1, w.2⟩, e1, e2]
        rfl
      · rw [if_neg (fun h => e h.1), Option.none_or]
        unfold pb endF
        simp only [List.length_cons]
        by_cases r : t + 1 ≤ u ∧ u < t + 1 + (d.length : Int)
        · rw [if_pos r, if_pos (by omega), show (u - t).toNat = (u - (t + 1)).toNat + 1 by omega, List.getElem?_cons_succ]
        · rw [if_neg r, if_neg (by omega)]
    · rw [if_neg w, if_neg w, if_neg (by rintro ⟨rfl, h⟩; exact w h)]
      rfl
end Go.Proofs.Ytiodmhcmciohnaa

/-! The plain law of FlowGets: what one Put does to both receivers. -/
namespace Go.Proofs.Ytiodmhcmciohnaa
set_option linter.unusedVariables false
set_option linter.unusedSimpArgs false
open Go.RowKit

theorem cover_has {L : List Pt} {r : Pt} (hr : r ∈ L) {t : Int} (h1 : r.1 ≤ t) (h2 : t < endF r) : cover L t ≠ none := by
  intro h
  unfold cover at h
  rw [List.findSome?_eq_none_iff] at h
  obtain ⟨b, hb⟩ := pb_some h1 h2
  rw [h r hr] at hb
  cases hb
theorem run_unique {f : Int → Option UInt8} {x : Int} {A B : List UInt8} (hA : ∀ j (hj : j < A.length), f (x + (j : Int)) = some A[j]) (hA' : f (x + (A.length : Int)) = none)
    (hB : ∀ j (hj : j < B.length), f (x + (j : Int)) = some B[j]) (hB' : f (x + (B.length : Int)) = none) : A = B := by
  have hl : A.length = B.length := by
    rcases Nat.lt_trichotomy A.length B.length with h | h | h
    · have := hB _ h
      rw [hA'] at this
      cases this
    · exact h
    · have := hA _ h
      rw [hB'] at this
      cases this
  refine List.ext_getElem hl fun i h1 h2 => ?_
  have := (hA i h1).symm.trans (hB i h2)
  exact Option.some.inj this
theorem hasQ_filter (m : Int) (t : Int) : ∀ Q : List PB, hasQ (Q.filter (fun p => decide (m ≤ p.1))) t = if m ≤ t then hasQ Q t else none
  | [] => by simp [hasQ]
  | q :: Q => by
    have ih := hasQ_filter m t Q
    by_cases hq : m ≤ q.1
    · rw [List.filter_cons_of_pos (by simpa using hq)]
      by_cases he : q.1 = t
      · subst he
        simp [hasQ, hq]
      · have e1 : ∀ R : List PB, hasQ (q :: R) t = hasQ R t := fun R => by simp [hasQ, he]
        rw [e1, e1, ih]
    · rw [List.filter_cons_of_neg (by simpa using hq), ih]
      by_cases he : q.1 = t
      · subst he
        rw [if_neg hq, if_neg hq]
      · have e1 : ∀ R : List PB, hasQ (q :: R) t = hasQ R t := fun R => by simp [hasQ, he]
        rw [e1]
theorem window_pb {at' next room : Int} {data : List UInt8} (h : lowF at' next ≤ highF at' next room data.length) (t : Int) :
    pb (partF at' next room data) t = if next ≤ t ∧ t < next + room then pb (at', data) t else none := by
  have e0 : endF (at', data) = at' + data.length := rfl
  have hl1 : at' ≤ lowF at' next := by unfold lowF; split <;> omega
  have hh1 : highF at' next room data.length ≤ at' + data.length := by unfold highF; split <;> omega
  unfold partF
  rw [pb_piece (p := (at', data)) (by simpa using hl1) h (by rw [e0]; exact hh1)]
  by_cases hin : at' ≤ t ∧ t < at' + data.length
  · have : (lowF at' next ≤ t ∧ t < highF at' next room data.length) ↔ (next ≤ t ∧ t < next + room) := by
      unfold lowF highF
      split <;> split <;> omega
    simp only [this]
  · have hn : pb (at', data) t = none := pb_none (by rw [e0]; simp only; omega)
    rw [hn]
    split <;> split <;> rfl
theorem window_none {at' next room : Int} {data : List UInt8} (h : highF at' next room data.length ≤ lowF at' next) (t : Int) :
    (if next ≤ t ∧ t < next + room then pb (at', data) t else none) = none := by
  have e0 : endF (at', data) = at' + data.length := rfl
  split
  · rename_i hc
    refine pb_none ?_
    rw [e0]
    simp only
    unfold lowF highF at h
    split at h <;> split at h <;> omega
  · rfl
/-- What both receivers hold beyond what is in order. -/
structure Both25 (next : Nat) (lim : Int) (L : List Pt) (Q : List PB) : Prop where
  sep : Sep ((next : Int) + 1) L
  ends : ∀ r ∈ L, endF r ≤ lim
  eq : ∀ t, hasQ Q t = cover L t
theorem Sep.mono {x y : Int} {L : List Pt} (h : Sep x L) (hxy : y ≤ x) : Sep y L := ⟨h.sep, fun q hq => Int.le_trans hxy (h.low q hq), h.ne⟩
theorem both_core {next : Nat} {lim : Int} {M : List Pt} {Q : List PB} {D : List UInt8} (n : Nat) (hM : Sep next M) (hf : ∀ t, hasQ Q t = cover M t) (he : ∀ r ∈ M, endF r ≤ lim) (hn : lim ≤ (next : Int) + n)
    (hD : ∀ j (hj : j < D.length), hasQ Q ((next : Int) + (j : Int)) = some D[j]) (hD' : hasQ Q ((next : Int) + (D.length : Int)) = none) :
    ∃ R, ((D = [] ∧ R = M ∧ ∀ r ∈ M, (next : Int) < r.1) ∨ M = ((next : Int), D) :: R) ∧ Both25 (next + D.length) lim R (Q.filter (fun p => decide (((next : Int) + (D.length : Int)) ≤ p.1))) ∧
      scanF (hasQ Q) n ((next : Int) + (D.length : Int)) [] = R := by
  have key : ∀ R : List Pt, Sep ((next : Int) + D.length + 1) R → (∀ r ∈ R, endF r ≤ lim) → (∀ t, (next : Int) + D.length ≤ t → cover M t = cover R t) →
      Both25 (next + D.length) lim R (Q.filter (fun p => decide (((next : Int) + (D.length : Int)) ≤ p.1))) ∧ scanF (hasQ Q) n ((next : Int) + (D.length : Int)) [] = R := by
    intro R hR hRe hc
    refine ⟨⟨by rw [Int.natCast_add]; exact hR, hRe, fun t => ?_⟩, ?_⟩
    · rw [hasQ_filter]
      split
      · rename_i h
        rw [hf, hc t h]
      · rename_i h
        exact (cover_none fun r hr => .inl (by have := hR.low r hr; omega)).symm
    · have := scanF_parts (hasQ Q) R n ((next : Int) + D.length) [] (hR.mono (by omega)) (fun r hr => by have := hRe r hr; omega) (fun t ht => by rw [hf, hc t ht]) (fun l h => by cases h)
      rw [List.nil_append] at this
      exact this
  cases M with
  | nil =>
    have h0 : D = [] := by
      cases D with
      | nil => rfl
      | cons b D =>
        have := hD 0 (by simp)
        rw [hf] at this
        cases this
    subst h0
    obtain ⟨k1, k2⟩ := key [] ⟨.nil, fun _ h => (by cases h), fun _ h => (by cases h)⟩ (fun _ h => by cases h) (fun _ _ => rfl)
    exact ⟨[], .inl ⟨rfl, rfl, fun _ h => by cases h⟩, k1, k2⟩
  | cons q rest =>
    obtain ⟨a, d⟩ := q
    have hp := List.pairwise_cons.1 hM.sep
    have hlow : ∀ r ∈ rest, a + (d.length : Int) < r.1 := fun r hr => hp.1 r hr
    have ha : (next : Int) ≤ a := hM.low (a, d) List.mem_cons_self
    have hd : d ≠ [] := hM.ne (a, d) List.mem_cons_self
    by_cases hna : a = next
    · have hB : ∀ j (hj : j < d.length), hasQ Q ((next : Int) + (j : Int)) = some d[j] := fun j hj => by
        rw [hf, cover_cons]
        have : pb (a, d) ((next : Int) + (j : Int)) = some d[j] := by
          unfold pb
          have e0 : endF (a, d) = a + d.length := rfl
          rw [if_pos (by rw [e0]; simp only; omega)]
          simp only
          rw [show ((next : Int) + (j : Int) - a).toNat = j by omega]
          exact List.getElem?_eq_getElem hj
        rw [this]
        rfl
      have hB' : hasQ Q ((next : Int) + (d.length : Int)) = none := by
        rw [hf, cover_cons, pb_none (by unfold endF; simp only; omega), cover_none (fun r hr => .inl (by have := hlow r hr; omega))]
        rfl
      obtain rfl : D = d := run_unique hD hD' hB hB'
      obtain ⟨k1, k2⟩ := key rest ⟨hp.2, fun r hr => by have := hlow r hr; omega, fun r hr => hM.ne r (List.mem_cons_of_mem _ hr)⟩ (fun r hr => he r (List.mem_cons_of_mem _ hr)) (fun t ht => by
        rw [cover_cons, pb_none (by unfold endF; simp only; omega)]
        rfl)
      exact ⟨rest, .inr (by rw [hna]), k1, k2⟩
    · have hgt : ∀ r ∈ (a, d) :: rest, (next : Int) < r.1 := fun r hr => by
        rcases List.mem_cons.1 hr with rfl | hr
        · simp only; omega
        · have := hlow r hr; omega
      have h0 : D = [] := by
        cases D with
        | nil => rfl
        | cons b D =>
          have := hD 0 (by simp)
          rw [hf, cover_none (fun r hr => .inl (by have := hgt r hr; simp only [Int.natCast_zero] at *; omega))] at this
          cases this
      subst h0
      obtain ⟨k1, k2⟩ := key ((a, d) :: rest) ⟨hM.sep, fun r hr => by have := hgt r hr; simp only [List.length_nil]; omega, hM.ne⟩ he (fun _ _ => rfl)
      exact ⟨(a, d) :: rest, .inl ⟨rfl, rfl, hgt⟩, k1, k2⟩
/-- No byte lies beyond the window. -/
theorem addQ_lim {next : Nat} {lim : Int} {L : List Pt} {Q : List PB} (h : Both25 next lim L Q) (at' : Int) (data : List UInt8) (t : Int) (ht : lim ≤ t) : hasQ (addQ next lim Q at' data) t = none := by
  rw [hasQ_addQ, h.eq, cover_none (fun r hr => .inr (by have := h.ends r hr; omega)), if_neg (by omega)]
  rfl
/-- Nothing is put. -/
theorem both_none {next : Nat} {room : Int} {L : List Pt} {Q : List PB} {D : List UInt8} (h : Both25 next ((next : Int) + room) L Q) (n : Nat) (hn : room ≤ n) (at' : Int) (data : List UInt8)
    (hw : highF at' next room data.length ≤ lowF at' next)
    (hD : ∀ j (hj : j < D.length), hasQ (addQ next ((next : Int) + room) Q at' data) ((next : Int) + (j : Int)) = some D[j]) (hD' : hasQ (addQ next ((next : Int) + room) Q at' data) ((next : Int) + (D.length : Int)) = none) :
    D = [] ∧ Both25 next ((next : Int) + room) L ((addQ next ((next : Int) + room) Q at' data).filter (fun p => decide (((next : Int) + (D.length : Int)) ≤ p.1))) ∧ scanF (hasQ (addQ next ((next : Int) + room) Q at' data)) n ((next : Int) + (D.length : Int)) [] = L := by
  have hf : ∀ t, hasQ (addQ next ((next : Int) + room) Q at' data) t = cover L t := fun t => by
    rw [hasQ_addQ, window_none hw, h.eq, Option.or_none]
  obtain ⟨R, h1, h2, h3⟩ := both_core n (h.sep.mono (by omega)) hf h.ends (by omega) hD hD'
  rcases h1 with ⟨rfl, rfl, -⟩ | h1
  · exact ⟨rfl, by simpa using h2, h3⟩
  · have := h.sep.low ((next : Int), D) (by rw [h1]; exact List.mem_cons_self)
    simp only at this
    omega
/-- Something is put. -/
theorem both_put {next : Nat} {room : Int} {L : List Pt} {Q : List PB} {D : List UInt8} (h : Both25 next ((next : Int) + room) L Q) (n : Nat) (hn : room ≤ n) (at' : Int) (data : List UInt8)
    (hw : lowF at' next < highF at' next room data.length)
    (hD : ∀ j (hj : j < D.length), hasQ (addQ next ((next : Int) + room) Q at' data) ((next : Int) + (j : Int)) = some D[j]) (hD' : hasQ (addQ next ((next : Int) + room) Q at' data) ((next : Int) + (D.length : Int)) = none) :
    ∃ a d rest R, mergeF L (partF at' next room data) = (a, d) :: rest ∧ ((a = next ∧ D = d ∧ R = rest) ∨ (a ≠ next ∧ D = [] ∧ R = (a, d) :: rest)) ∧
      Both25 (next + D.length) ((next : Int) + room) R ((addQ next ((next : Int) + room) Q at' data).filter (fun p => decide (((next : Int) + (D.length : Int)) ≤ p.1))) ∧ scanF (hasQ (addQ next ((next : Int) + room) Q at' data)) n ((next : Int) + (D.length : Int)) [] = R := by
  have hlow : (next : Int) ≤ lowF at' next := by unfold lowF; split <;> omega
  obtain ⟨hS, hC⟩ := mergeF_cover (p := partF at' next room data) (x := next) (L := L) hlow (h.sep.mono (by omega))
  have hf : ∀ t, hasQ (addQ next ((next : Int) + room) Q at' data) t = cover (mergeF L (partF at' next room data)) t := fun t => by
    rw [hC, hasQ_addQ, h.eq, window_pb (Int.le_of_lt hw)]
  have he : ∀ r ∈ mergeF L (partF at' next room data), endF r ≤ (next : Int) + room := fun r hr => by
    have hne := hS.ne r hr
    have hlen : 0 < r.2.length := List.length_pos_iff.2 hne
    have h1 := cover_has hr (t := endF r - 1) (by unfold endF; omega) (by omega)
    rcases Int.lt_or_le (endF r - 1) ((next : Int) + room) with h2 | h2
    · omega
    · exact absurd ((hf _).symm.trans (addQ_lim h at' data _ h2)) h1
  have hne : mergeF L (partF at' next room data) ≠ [] := by
    intro e
    have h1 := hC (lowF at' next)
    rw [e, cover_nil, window_pb (Int.le_of_lt hw)] at h1
    have h2 : highF at' next room data.length ≤ at' + data.length ∧ highF at' next room data.length ≤ (next : Int) + room ∧ at' ≤ lowF at' next := by
      unfold highF lowF
      split <;> split <;> omega
    obtain ⟨b, hb⟩ := pb_some (q := (at', data)) (t := lowF at' next) (by simp only; omega) (by unfold endF; simp only; omega)
    rw [if_pos (by omega), hb] at h1
    cases hc : cover L (lowF at' next) <;> rw [hc] at h1 <;> cases h1
  obtain ⟨R, h1, h2, h3⟩ := both_core n hS hf he (by omega) hD hD'
  obtain ⟨⟨a, d⟩, rest, hM⟩ := List.exists_cons_of_ne_nil hne
  refine ⟨a, d, rest, R, hM, ?_, h2, h3⟩
  rcases h1 with ⟨rfl, rfl, h4⟩ | h1
  · exact .inr ⟨by have := h4 (a, d) (by rw [hM]; exact List.mem_cons_self); simp only at this; omega, rfl, hM⟩
  · rw [hM] at h1
    simp only [List.cons.injEq, Prod.mk.injEq] at h1
    exact .inl ⟨h1.1.1, h1.1.2.symm, h1.2.symm⟩
end Go.Proofs.Ytiodmhcmciohnaa

/-! The reference's receiver: Parts. -/
namespace Go.Proofs.Ytiodmhcmciohnaa
set_option linter.unusedVariables false
set_option linter.unusedSimpArgs false
open Go.RowKit

theorem RowAt.setSame {w : World} {b T j : Nat} {cs : Array Value} {v : Value} (h : RowAt w b cs T) (hc : cs[j]? = some v) : w.setCell ⟨b, j, none⟩ v = w := by
  rw [setCell_eq_setRow w b j cs T (0, 0) v h]
  have : cs.setIfInBounds j v = cs := by
    refine Array.ext_getElem? fun i => ?_
    by_cases e : j = i
    · subst e
      rw [Array.getElem?_setIfInBounds_self_of_lt (Array.getElem?_eq_some_iff.1 hc).1, hc]
    · rw [Array.getElem?_setIfInBounds_ne e]
  rw [this]
  exact setRow_self w b cs T (0, 0) h
theorem scanF_succ (f : Int → Option UInt8) (i : Nat) (x : Int) : scanF f (i + 1) x [] = scan1 f (x + i) (scanF f i x []) := by
  rw [scanF_add f i 1]
  rfl

theorem scan1_bd {f : Int → Option UInt8} {x t : Int} {L : List Pt} (h : ∀ r ∈ L, x ≤ r.1 ∧ endF r ≤ t) (hx : x ≤ t) : (∀ r ∈ scan1 f t L, x ≤ r.1 ∧ endF r ≤ t + 1) ∧ (scan1 f t L).length ≤ L.length + 1 := by
  have old : (∀ r ∈ L, x ≤ r.1 ∧ endF r ≤ t + 1) := fun r hr => by have := h r hr; omega
  have new : ∀ (b : UInt8), (∀ r ∈ L ++ [((t, [b]) : Pt)], x ≤ r.1 ∧ endF r ≤ t + 1) := fun b r hr => by
    rcases List.mem_append.1 hr with hr | hr
    · exact old r hr
    · obtain rfl := List.mem_singleton.1 hr
      exact ⟨hx, by unfold endF; simp⟩
  unfold scan1
  split
  · exact ⟨old, Nat.le_succ _⟩
  next b hb =>
    split
    next l hl =>
      split
      next he =>
        rcases List.eq_nil_or_concat L with rfl | ⟨K, l', rfl⟩
        · simp at hl
        · rw [List.concat_eq_append] at *
          rw [List.getLast?_concat] at hl
          obtain rfl := Option.some.inj hl
          rw [List.dropLast_concat]
          refine ⟨fun r hr => ?_, by simp⟩
          rcases List.mem_append.1 hr with hr | hr
          · exact old r (List.mem_append_left _ hr)
          · obtain rfl := List.mem_singleton.1 hr
            have := h l' (by simp)
            unfold endF at *
            simp only [List.length_append, List.length_singleton]
            omega
      · exact ⟨new b, by simp⟩
    · exact ⟨new b, by simp⟩
theorem scanF_bd (f : Int → Option UInt8) (x : Int) : ∀ i : Nat, (∀ r ∈ scanF f i x [], x ≤ r.1 ∧ endF r ≤ x + i) ∧ (scanF f i x []).length ≤ i
  | 0 => ⟨fun r hr => (by cases hr), Nat.le_refl _⟩
  | i + 1 => by
    rw [scanF_succ]
    have h := scanF_bd f x i
    have h1 := scan1_bd (f := f) (t := x + i) h.1 (by omega)
    exact ⟨fun r hr => by have := h1.1 r hr; omega, by omega⟩

set_option maxRecDepth 100000 in
set_option maxHeartbeats 4000000 in
theorem rparts_any (x M : Nat) (room : Int) (allv : Value) (taken : Nat) (atv bsv : Value) (all : List UInt8) (Q : List PB) (w : World) (h : RefA x room allv taken atv bsv all Q w) (hM : (M : Int) = room + 1) (h2 : M ≤ 100000) (h3 : all.length ≤ 1000000) (hQ : Q.length ≤ 1000000) :
    Calls Try.prog 21 #[.pointer (some ⟨x, 0, none⟩)] w fun e w' => ∃ v, e = .returned v ∧ TRd w' (fun b => w.heap.size ≤ b) v (scanF (hasQ Q) M all.length []) ∧ Keeps (fun _ => False) w w' := by
  obtain ⟨aa, ac, rfl, -, -⟩ := BAt.slice h.hA
  have p0 : w.cell? ⟨x, 0, none⟩ = some (.int .i64 room) := h.hr.cell 0
  have p1 : w.cell? ⟨x, 1, none⟩ = some (.slice aa all.length ac) := h.hr.cell 1
  have HH := Lib.hid h
  clear h
  obtain ⟨N, hN⟩ : ∃ N, all.length = N := ⟨_, rfl⟩
  rw [hN] at p1 h3 ⊢
  have q0 := i64_fit ((N : Int) + room) (by omega) (by omega)
  go_enter Try.func21, Try.ntmps21
  go_wp2
  go_loopw [3, 4] (fun u3 u4 wr => ∃ (i : Nat) (qs : List (Pt × Value)), i ≤ M ∧ u4 = .int .i64 ((N : Int) + (i : Int)) ∧ TOwn wr w.heap.size (fun b => w.heap.size ≤ b) u3 qs ∧ qs.map (·.1) = scanF (hasQ Q) i N [] ∧ Keeps (fun _ => False) w wr) (fun _ u4 _ => M - ((intOf u4).toNat - N))
  case atStart => exact ⟨0, [], Nat.zero_le _, by simp, TOwn.nil _ _ _, rfl, Keeps.refl _ _⟩
  case round =>
    obtain ⟨i, qs, hi, rfl, hT, hqs, hkw⟩ := hrel
    have e0 := hkw.cell p0 (fun h => h)
    have e1 := hkw.cell p1 (fun h => h)
    by_cases hlt : i < M
    · have g1 : (N : Int) + (i : Int) ≤ (N : Int) + room := by omega
      go_wp2
      go_quiet (fail)
      have hk1 : Keeps (fun _ => False) w (wr.drewN nq) := hkw.drewN nq
      have hT1 := hT.keeps ((Keeps.refl (fun _ => False) wr).drewN nq)
      generalize wr.drewN nq = W at *
      have HT := Lib.hid hT1
      have HQS := Lib.hid hqs
      have HK := Lib.hid hk1
      have hhas := has_any x room ((N : Int) + (i : Int)) _ taken atv bsv all Q W (HH.out.keeps hk1) hQ
      have hsc := scanF_succ (hasQ Q) i (N : Int)
      unfold hasV at hhas
      have q1 := i64_fit ((N : Int) + (i : Int) + 1) (by omega) (by omega)
      clear hT hT1 hqs hk1 hkw e0 e1
      cases hq : hasQ Q ((N : Int) + (i : Int)) with
      | none =>
        rw [hq] at hhas
        unfold scan1 at hsc
        rw [hq] at hsc
        have HHAS := Lib.hid hhas
        have HSC := Lib.hid hsc
        clear hhas hsc hq
        go_wp2_with fail
        refine HHAS.out.mono ?_
        rintro e w2 ⟨rfl, rfl⟩
        go_wp2_with fail
        go_roundw
        case rel => exact ⟨i + 1, qs, by omega, by go_num, HT.out, by rw [HQS.out]; exact HSC.out.symm, HK.out⟩
        case measure => simp [intOf]; omega
      | some b =>
        rw [hq] at hhas
        unfold scan1 at hsc
        rw [hq, ← HQS.out] at hsc
        have HHAS := Lib.hid hhas
        have HSC := Lib.hid hsc
        clear hhas hsc hq
        go_wp2_with fail
        refine HHAS.out.mono ?_
        rintro e w2 ⟨rfl, rfl⟩
        rcases List.eq_nil_or_concat qs with rfl | ⟨ks, ⟨⟨la, ld⟩, lv⟩, rfl⟩
        · obtain ⟨oa, oc, rfl, -, -⟩ := SAt.slice HT.out.1.sat
          go_wp2
          go_quiet (fail)
          have hT2 := HT.out.keeps ((Keeps.refl (fun _ => False) W).drewN nq)
          have hK2 := HK.out.drewN nq
          clear HT HK HHAS
          have HT := Lib.hid hT2
          have HK := Lib.hid hK2
          clear hT2 hK2
          generalize W.drewN nq = W at *
          have hszA : (W.alloc (.cells #[.int .u8 (b.toNat : Int)] 5)).heap.size = W.heap.size + 1 := Array.size_push _
          have hkA := (Keeps.refl (fun _ => False) W).alloc (.cells #[.int .u8 (b.toNat : Int)] 5)
          have hkB := hkA.alloc (.cells #[.int .i64 ((N : Int) + (i : Int)), .slice (some ⟨W.heap.size, 0, none⟩) 1 1] 68)
          have hbA := BAt.one W (b.toNat : Int) b 5 rfl
          have hbB := hbA.keeps ((Keeps.refl (fun _ => False) (W.alloc (.cells #[.int .u8 (b.toNat : Int)] 5))).alloc (.cells #[.int .i64 ((N : Int) + (i : Int)), .slice (some ⟨W.heap.size, 0, none⟩) 1 1] 68)) (fun _ _ h => h)
          have hsat := sat_pt (W.alloc (.cells #[.int .u8 (b.toNat : Int)] 5)) ((N : Int) + (i : Int), [b]) (.slice (some ⟨W.heap.size, 0, none⟩) 1 1) 68
          rw [hszA] at hsat
          have hKs := HK.out.size
          have hblk := fun x hx => Own.block HT.out.1 x hx
          have hbd := scanF_bd (hasQ Q) (N : Int) i
          obtain ⟨v5, w5, hrun, ho5, hk5, -⟩ := run_append_pt (ty := 43) (p := (((N : Int) + (i : Int), [b]), .slice (some ⟨W.heap.size, 0, none⟩) 1 1)) (HT.out.keeps hkB) rfl hsat (hbB.mono fun x hx => ⟨Nat.le_trans hKs hx, fun e => by have := (hblk x e).2; omega⟩) (by have h1 := congrArg List.length HQS.out; rw [List.length_map] at h1; have := hbd.2; omega) (Nat.le_trans hKs hkB.size)
          have hkw5 := (HK.out.trans hkB (fun _ _ h => h)).from hk5 (fun x hx => (hblk x hx).1)
          obtain ⟨a5, n5, c5, rfl⟩ := ho5.lit
          have HRUN := Lib.hid hrun
          have HO5 := Lib.hid ho5
          have HK5 := Lib.hid hkw5
          clear hszA hkA hkB hbA hbB hsat hKs hblk hbd hrun ho5 hkw5 hk5
          go_wp2_with (at_builtin; refine Lib.wpList_append_run _ rfl _ _ _ _ rfl _ _ rfl rfl _ _ HRUN.out ?_)
          go_roundw
          case rel => exact ⟨i + 1, _, by omega, by go_num, HO5.out, by rw [HSC.out]; rfl, HK5.out⟩
          case measure => simp [intOf]; omega
        · rw [List.concat_eq_append] at *
          have hm := (scanF_bd (hasQ Q) (N : Int) i).1 (la, ld) (by rw [← HQS.out]; simp)
          have hkl := (scanF_bd (hasQ Q) (N : Int) i).2
          rw [← HQS.out, List.length_map, List.length_append, List.length_singleton] at hkl
          simp only at hm
          have hme : endF (la, ld) = la + ld.length := rfl
          rw [hme] at hm
          have hsc := HSC.out
          rw [List.map_append] at hsc
          simp only [List.map_cons, List.map_nil, List.getLast?_concat, List.dropLast_concat, hme] at hsc
          obtain ⟨vg, vo, vc, rfl, hgb, hgl, hlv, k0, k1, ⟨kcs, krow⟩, hset⟩ := HT.out.last
          obtain ⟨da, dc, rfl, -, -⟩ := hlv.slice
          have q3 := i64_fit (la + (ld.length : Int)) (by omega) (by omega)
          have HSET := Lib.hid hset
          have HLV := Lib.hid hlv
          clear hset hlv HSC
          by_cases he : la + (ld.length : Int) = (N : Int) + (i : Int)
          · rw [if_pos he] at hsc
            have HSC := Lib.hid hsc
            have hbe : ((la + (ld.length : Int)) == ((N : Int) + (i : Int))) = true := by simpa using he
            clear hsc
            go_wp2
            go_quiet (fail)
            have hk1 : Keeps (fun _ => False) W (W.drewN nq) := (Keeps.refl _ _).drewN nq
            have krow1 := krow.drewN nq
            have k01 : (W.drewN nq).cell? ⟨vg, vo + ks.length * 2, none⟩ = some (.int .i64 la) := k0
            have k11 : (W.drewN nq).cell? ⟨vg, vo + ks.length * 2 + 1, none⟩ = some (.slice da ld.length dc) := k1
            have hlv1 := HLV.out.keeps hk1 (fun _ _ h => h)
            clear k0 k1 krow HHAS
            generalize W.drewN nq = W1 at *
            have hkA := (Keeps.refl (fun _ => False) W1).alloc (.cells #[.int .u8 (b.toNat : Int)] 5)
            have hszA : (W1.alloc (.cells #[.int .u8 (b.toNat : Int)] 5)).heap.size = W1.heap.size + 1 := Array.size_push _
            have hbA := BAt.one W1 (b.toNat : Int) b 5 rfl
            have hrows := (BBAt.pair (T := 30) (hlv1.keeps hkA (fun _ _ h => h)).low hbA.low).low
            rw [hszA] at hrows
            have hfl : [ld, [b]].flatten = ld ++ [b] := by simp
            obtain ⟨D, hD⟩ : ∃ D, ld ++ [b] = D := ⟨_, rfl⟩
            have HB := Lib.hid (both_any _ [ld, [b]] _ hrows (by rw [hfl]; simp; omega))
            rw [hfl, hD] at HB
            have hDl : D.length ≤ 2000000 := by rw [← hD]; simp; omega
            rw [hD] at HSC
            clear hrows hbA hD hfl
            go_wp2_with fail
            refine HB.out.mono ?_
            rintro e w5 ⟨v5, rfl, ho5, hk5⟩
            obtain ⟨a5, c5, rfl, -, -⟩ := BOwn.slice ho5
            have hkB := (hkA.alloc (.cells #[.slice da ld.length dc, .slice (some ⟨W1.heap.size, 0, none⟩) 1 1] 30))
            have hk15 := hkB.trans hk5 (fun _ _ h => h)
            have hkW5 := hk1.trans hk15 (fun _ _ h => h)
            have krow5 := krow1.keeps hk15 (fun h => h)
            have k05 := hk15.cell k01 (fun h => h)
            have k15 := hk15.cell k11 (fun h => h)
            have f05 := krow5.frozen (vo + ks.length * 2)
            have f15 := krow5.frozen (vo + ks.length * 2 + 1)
            have hsame := krow5.setSame (j := vo + ks.length * 2) (v := .int .i64 la) (by rw [← krow5.cell]; exact k05)
            have hbs := hkB.size
            have hks := HK.out.size
            have hgl1 : vg < W1.heap.size := krow1.lt
            have hTF := HSET.out w5 (.slice a5 D.length c5) D hkW5 rfl (ho5.ge.mono fun y hy => ⟨by have := hk1.size; omega, by omega⟩)
            have hkF := (HK.out.trans hkW5 (fun _ _ h => h)).setCell ⟨vg, vo + ks.length * 2 + 1, none⟩ (.slice a5 D.length c5) (.inr hgb)
            have HTF := Lib.hid hTF
            have HKF := Lib.hid hkF
            have HSAME := Lib.hid hsame
            clear hTF hkF hsame hkB hk15 hkW5 krow5 krow1 k01 k11 ho5 hk5 hkA hszA hlv1 HB HLV HSET HT HK
            go_wp2
            go_roundw
            case rel => exact ⟨i + 1, _, by omega, by go_num, by rw [HSAME.out]; exact HTF.out, by rw [HSC.out]; simp, by rw [HSAME.out]; exact HKF.out⟩
            case measure => simp [intOf]; omega
          · rw [if_neg he] at hsc
            have HSC := Lib.hid hsc
            have hbe : ((la + (ld.length : Int)) == ((N : Int) + (i : Int))) = false := beq_eq_false_iff_ne.2 he
            clear hsc
            go_wp2
            go_quiet (fail)
            clear HSET HLV
            have hT2 := HT.out.keeps ((Keeps.refl (fun _ => False) W).drewN nq)
            have hK2 := HK.out.drewN nq
            clear HT HK HHAS
            have HT := Lib.hid hT2
            have HK := Lib.hid hK2
            clear hT2 hK2
            generalize W.drewN nq = W at *
            have hszA : (W.alloc (.cells #[.int .u8 (b.toNat : Int)] 5)).heap.size = W.heap.size + 1 := Array.size_push _
            have hkA := (Keeps.refl (fun _ => False) W).alloc (.cells #[.int .u8 (b.toNat : Int)] 5)
            have hkB := hkA.alloc (.cells #[.int .i64 ((N : Int) + (i : Int)), .slice (some ⟨W.heap.size, 0, none⟩) 1 1] 68)
            have hbA := BAt.one W (b.toNat : Int) b 5 rfl
            have hbB := hbA.keeps ((Keeps.refl (fun _ => False) (W.alloc (.cells #[.int .u8 (b.toNat : Int)] 5))).alloc (.cells #[.int .i64 ((N : Int) + (i : Int)), .slice (some ⟨W.heap.size, 0, none⟩) 1 1] 68)) (fun _ _ h => h)
            have hsat := sat_pt (W.alloc (.cells #[.int .u8 (b.toNat : Int)] 5)) ((N : Int) + (i : Int), [b]) (.slice (some ⟨W.heap.size, 0, none⟩) 1 1) 68
            rw [hszA] at hsat
            have hKs := HK.out.size
            have hblk := fun x hx => Own.block HT.out.1 x hx
            have hbd := scanF_bd (hasQ Q) (N : Int) i
            obtain ⟨v5, w5, hrun, ho5, hk5, -⟩ := run_append_pt (ty := 43) (p := (((N : Int) + (i : Int), [b]), .slice (some ⟨W.heap.size, 0, none⟩) 1 1)) (HT.out.keeps hkB) rfl hsat (hbB.mono fun x hx => ⟨Nat.le_trans hKs hx, fun e => by have := (hblk x e).2; omega⟩) (by have h1 := congrArg List.length HQS.out; rw [List.length_map] at h1; have := hbd.2; omega) (Nat.le_trans hKs hkB.size)
            have hkw5 := (HK.out.trans hkB (fun _ _ h => h)).from hk5 (fun x hx => (hblk x hx).1)
            obtain ⟨a5, n5, c5, rfl⟩ := ho5.lit
            have HRUN := Lib.hid hrun
            have HO5 := Lib.hid ho5
            have HK5 := Lib.hid hkw5
            clear hszA hkA hkB hbA hbB hsat hKs hblk hbd hrun ho5 hkw5 hk5
            go_wp2_with (at_builtin; refine Lib.wpList_append_run _ rfl _ _ _ _ rfl _ _ rfl rfl _ _ HRUN.out ?_)
            go_roundw
            case rel => exact ⟨i + 1, _, by omega, by go_num, HO5.out, by rw [HSC.out]; simp, HK5.out⟩
            case measure => simp [intOf]; omega
    · obtain rfl : i = M := by omega
      have g1 : ¬ (N : Int) + (i : Int) ≤ (N : Int) + room := by omega
      have HT := Lib.hid hT
      clear hT
      go_wp2
      go_quiet (fail)
      go_wp2
      go_ret
      refine ⟨_, rfl, ?_, hkw.drewN nq⟩
      rw [← hqs]
      exact (HT.out.keeps ((Keeps.refl (fun _ => False) wr).drewN nq)).reads (fun b h => h) (fun b h => h)
end Go.Proofs.Ytiodmhcmciohnaa

/-! The reference's receiver: Read. -/
namespace Go.Proofs.Ytiodmhcmciohnaa
set_option linter.unusedVariables false
set_option linter.unusedSimpArgs false
open Go.RowKit

set_option maxRecDepth 100000 in
set_option maxHeartbeats 1000000 in
theorem rread_any (x k : Nat) (room n : Int) (taken : Nat) (av atv bsv : Value) (all : List UInt8) (w : World) (hr : RowAt w x #[.int .i64 room, av, .int .i64 taken, atv, bsv] 33) (hA : BRd w av all)
    (hi : taken ≤ all.length) (hal : all.length ≤ 1000000) (hn0 : 0 ≤ n) (hn : (k : Int) = if (all.length : Int) - (taken : Int) < n then (all.length : Int) - (taken : Int) else n) :
    Calls Try.prog 15 #[.pointer (some ⟨x, 0, none⟩), .int .i64 n] w fun e w' => ∃ v, e = .returned (.tuple #[v, .int .i64 0]) ∧ BOwn w' w.heap.size v ((all.drop taken).take k) ∧ Keeps (· = x) w w' ∧
      RowAt w' x #[.int .i64 room, av, .int .i64 ((taken + k : Nat) : Int), atv, bsv] 33 := by
  obtain ⟨aa, ac, rfl, hac, ham⟩ := BAt.slice hA
  simp only [maxLen] at ham
  have p1 : w.cell? ⟨x, 1, none⟩ = some (.slice aa all.length ac) := hr.cell 1
  have p2 : w.cell? ⟨x, 2, none⟩ = some (.int .i64 taken) := hr.cell 2
  have g3 : ¬ n < 0 := by omega
  have hcut := BAt.cutG hA taken hi
  have hkl : k ≤ all.length - taken := by split at hn <;> omega
  obtain ⟨to, hto⟩ : ∃ t : Nat, taken + k = t := ⟨_, rfl⟩
  have hD : (all.drop taken).length = all.length - taken := List.length_drop
  have ht2 := BAt.take (l := all.drop taken) (a := cutA aa ac taken) (c := ac - taken) (p := (· < w.heap.size)) (w := w) (by rw [hD]; exact hcut) k (by rw [hD]; exact hkl)
  unfold cutA at ht2
  obtain ⟨D, hDD⟩ : ∃ D, (all.drop taken).take k = D := ⟨_, rfl⟩
  have hDl : D.length ≤ 1000000 := by rw [← hDD, List.length_take, List.length_drop]; omega
  rw [hDD] at ht2 ⊢
  have hfl2 : [D].flatten = D := by simp
  clear hcut hDD hD
  rw [hto]
  by_cases c1 : n < (all.length : Int) - (taken : Int)
  · obtain rfl : n = (k : Int) := by split at hn <;> omega
    have q1 := i64_fit ((all.length : Int) - (taken : Int)) (by omega) (by omega)
    have q2 := i64_fit ((taken : Int) + (k : Int)) (by omega) (by omega)
    clear hn
    have hcj : ¬ ac = taken := by omega
    rw [if_neg hcj, show k = to - taken by omega] at ht2
    have htk : (taken : Int) + (k : Int) = (to : Int) := by omega
    go_enter Try.func15, Try.ntmps15
    go_wp2
    refine region_draws_tail 9 (by kernel_rfl) (by kernel_rfl) ?_
    simp only [List.take_succ_cons, List.take_zero, List.drop_succ_cons, List.drop_zero]
    repeat (go_big_quiet_step (fail))
    refine wpQuiet_nil ?_
    rintro _ ⟨nq, rfl⟩
    have hkq : Keeps (fun _ => False) w (w.drewN nq) := (Keeps.refl _ _).drewN nq
    have ht3 := ht2.keeps hkq (fun _ _ h => h)
    have hr3 := hr.drewN nq
    go_wp2_with fail
    refine (both_any _ [D] _ (BBAt.one (T := 30) ht3).low (by rw [hfl2]; omega)).mono ?_
    rintro e w3 ⟨v3, rfl, ho3, hk3⟩
    rw [hfl2] at ho3
    obtain ⟨a3, c3, rfl, -, -⟩ := BOwn.slice ho3
    have hk4 := (hkq.alloc (.cells #[_] 30)).trans hk3 (fun _ _ h => h)
    have hr4 := (hr3.alloc (.cells #[_] 30)).keeps hk3 (fun h => h)
    have f2 := hr4.frozen 2
    have p2' := (show w3.cell? ⟨x, 2, none⟩ = some (.int .i64 _) from hr4.cell 2)
    go_wp2
    go_ret2
    have hxl := hr.lt
    have ho4 := (ho3.mono (hkq.alloc _).size).keeps ((Keeps.refl (· = x) w3).setCell ⟨x, 2, none⟩ (.int .i64 ((to : Nat) : Int)) (.inl rfl)) (fun b hb e => by subst e; exact ho3.apart hr4 (by decide) hb)
    exact ⟨_, rfl, ho4, (hk4.mono (fun _ _ h => h.elim)).setCell _ _ (.inl rfl), (hr4.set 2 _).eq rfl⟩
  · obtain rfl : k = all.length - taken := by split at hn <;> omega
    obtain rfl : to = all.length := by omega
    have q1 := i64_fit ((all.length : Int) - (taken : Int)) (by omega) (by omega)
    clear hn hto hkl
    by_cases hcj : ac = taken
    · subst hcj
      rw [if_pos rfl, show all.length - ac = 0 by omega, show ac - ac = 0 by omega] at ht2
      go_enter Try.func15, Try.ntmps15
      go_wp2
      refine region_draws_tail 9 (by kernel_rfl) (by kernel_rfl) ?_
      simp only [List.take_succ_cons, List.take_zero, List.drop_succ_cons, List.drop_zero]
      repeat (go_big_quiet_step (fail))
      refine wpQuiet_nil ?_
      rintro _ ⟨nq, rfl⟩
      have hkq : Keeps (fun _ => False) w (w.drewN nq) := (Keeps.refl _ _).drewN nq
      have ht3 := ht2.keeps hkq (fun _ _ h => h)
      have hr3 := hr.drewN nq
      go_wp2_with fail
      refine (both_any _ [D] _ (BBAt.one (T := 30) ht3).low (by rw [hfl2]; omega)).mono ?_
      rintro e w3 ⟨v3, rfl, ho3, hk3⟩
      rw [hfl2] at ho3
      obtain ⟨a3, c3, rfl, -, -⟩ := BOwn.slice ho3
      have hk4 := (hkq.alloc (.cells #[_] 30)).trans hk3 (fun _ _ h => h)
      have hr4 := (hr3.alloc (.cells #[_] 30)).keeps hk3 (fun h => h)
      have f2 := hr4.frozen 2
      have p2' := (show w3.cell? ⟨x, 2, none⟩ = some (.int .i64 _) from hr4.cell 2)
      go_wp2
      go_ret2
      have hxl := hr.lt
      have ho4 := (ho3.mono (hkq.alloc _).size).keeps ((Keeps.refl (· = x) w3).setCell ⟨x, 2, none⟩ (.int .i64 ((all.length : Nat) : Int)) (.inl rfl)) (fun b hb e => by subst e; exact ho3.apart hr4 (by decide) hb)
      exact ⟨_, rfl, ho4, (hk4.mono (fun _ _ h => h.elim)).setCell _ _ (.inl rfl), (hr4.set 2 _).eq rfl⟩
    · rw [if_neg hcj] at ht2
      go_enter Try.func15, Try.ntmps15
      go_wp2
      refine region_draws_tail 9 (by kernel_rfl) (by kernel_rfl) ?_
      simp only [List.take_succ_cons, List.take_zero, List.drop_succ_cons, List.drop_zero]
      repeat (go_big_quiet_step (fail))
      refine wpQuiet_nil ?_
      rintro _ ⟨nq, rfl⟩
      have hkq : Keeps (fun _ => False) w (w.drewN nq) := (Keeps.refl _ _).drewN nq
      have ht3 := ht2.keeps hkq (fun _ _ h => h)
      have hr3 := hr.drewN nq
      go_wp2_with fail
      refine (both_any _ [D] _ (BBAt.one (T := 30) ht3).low (by rw [hfl2]; omega)).mono ?_
      rintro e w3 ⟨v3, rfl, ho3, hk3⟩
      rw [hfl2] at ho3
      obtain ⟨a3, c3, rfl, -, -⟩ := BOwn.slice ho3
      have hk4 := (hkq.alloc (.cells #[_] 30)).trans hk3 (fun _ _ h => h)
      have hr4 := (hr3.alloc (.cells #[_] 30)).keeps hk3 (fun h => h)
      have f2 := hr4.frozen 2
      have p2' := (show w3.cell? ⟨x, 2, none⟩ = some (.int .i64 _) from hr4.cell 2)
      go_wp2
      go_ret2
      have hxl := hr.lt
      have ho4 := (ho3.mono (hkq.alloc _).size).keeps ((Keeps.refl (· = x) w3).setCell ⟨x, 2, none⟩ (.int .i64 ((all.length : Nat) : Int)) (.inl rfl)) (fun b hb e => by subst e; exact ho3.apart hr4 (by decide) hb)
      exact ⟨_, rfl, ho4, (hk4.mono (fun _ _ h => h.elim)).setCell _ _ (.inl rfl), (hr4.set 2 _).eq rfl⟩
end Go.Proofs.Ytiodmhcmciohnaa

/-! redoubtref25.Same of one part and itself; Next. -/
namespace Go.Proofs.Ytiodmhcmciohnaa
set_option linter.unusedVariables false
set_option linter.unusedSimpArgs false
open Go.RowKit

set_option maxRecDepth 100000 in
set_option maxHeartbeats 1000000 in
theorem same1_any (X Y : Nat → Prop) (x y : Value) (p : Pt) (w : World) (hx : TRd w X x [p]) (hy : TRd w Y y [p]) :
    Calls Try.prog 19 #[x, y] w fun e w' => e = .returned (.bool true) ∧ ∃ m, w' = w.drewN m := by
  obtain ⟨at', data⟩ := p
  obtain ⟨b, off, c, dv, rfl, hd, k0, k1⟩ := hx.at 0 (by simp)
  obtain ⟨b', off', c', dv', rfl, hd', k0', k1'⟩ := hy.at 0 (by simp)
  simp only [List.getElem_cons_zero, Nat.zero_mul, Nat.add_zero, List.length_singleton] at hd hd' k0 k1 k0' k1' ⊢
  obtain ⟨da, dc, rfl, -, -⟩ := hd.slice
  obtain ⟨da', dc', rfl, -, -⟩ := hd'.slice
  have ht := fun m => (BAt.keeps hd ((Keeps.refl (fun _ => False) w).drewN m) (fun _ _ h => h)).text
  have ht' := fun m => (BAt.keeps hd' ((Keeps.refl (fun _ => False) w).drewN m) (fun _ _ h => h)).text
  go_enter Try.func19, Try.ntmps19
  go_wp2
  refine wp_loop_rounds 2 ?_
  rw [rounds_succ]
  go_wp2
  go_quiet (fail)
  go_wp2
  rw [rounds_succ]
  go_wp2
  go_ret
  exact ⟨rfl, _, rfl⟩
theorem next_any (g : Nat) (room next : Int) (bv pv : Value) (w : World) (hr : RowAt w g #[.int .i64 room, .int .i64 next, bv, pv] 66) :
    Calls Try.prog 16 #[.pointer (some ⟨g, 0, none⟩)] w fun e w' => e = .returned (.int .i64 next) ∧ w = w' := by
  have p1 : w.cell? ⟨g, 1, none⟩ = some (.int .i64 next) := hr.cell 1
  go_enter Try.func16, Try.ntmps16
  go_wp2
  go_ret
  exact ⟨rfl, rfl⟩
end Go.Proofs.Ytiodmhcmciohnaa
