/- Words, walks and plain laws that the claim leans on, part 14. -/
import Derived.Test.YtekaoknpjpbjgaaDoorM3
import Derived.Lib.AppendZerosOnto
import Derived.Laws.OwnMore

/-! append of make: zeros behind a slice of the call's own (elements of one cell). -/
namespace Go.Proofs.YtekaoknpjpbjgaaDoor
set_option linter.unusedVariables false
set_option linter.unusedSimpArgs false
open Go.RowKit

theorem zeroCells_one (z : Value) (k : Nat) : Builtin.zeroCells #[z] k = (List.replicate k z).toArray := by
  rw [← toList_madeCells_one z k]
  show (Array.range (k * 1)).map _ = _
  rw [Nat.mul_one]
  rfl

theorem run_append_zeros {P : Program} {w : World} {base : Nat} {t tn ty e : TypeId} {i : TypeInfo} {z : Value} {bytes : Nat} {kn : IntKind} {v : Value} {n : Nat} {xs : List Value} (k : Nat)
    (ht : P.underlying t = some (.slice e)) (htn : P.underlying tn = some (.int kn)) (hi : P.info? e = some i) (hz : i.zero = some z) (hsz : i.size = 1) (hby : i.bytes = bytes) (hzc : z.cells = #[z]) (hz1 : z.oneCell' = true)
    (hown : Own w base e 1 v n xs) (hmax : n + k ≤ 1000000000) (hbytes : bytes ≤ 100) (hbase : base ≤ w.heap.size) :
    ∃ v' w', (Builtin.append_ #[t, tn] ty #[v, .int .i64 (k : Int)]).run P w = .ok v' w' ∧ Appended w base e 1 v v' w' (n + k) (xs ++ List.replicate k z) := by
  subst hby
  have hw : IntKind.i64.wrap (k : Int) = k := by rw [IntKind.wrap_i64]; omega
  have hneg : ¬ ((k : Int) < 0) := by omega
  have hkb : (k : Int) * (i.bytes : Int) ≤ 100000000000 := by
    have : k * i.bytes ≤ 1000000000 * 100 := Nat.mul_le_mul (by omega) hbytes
    rw [← Int.natCast_mul]; omega
  have h48i : ¬ (281474976710656 < (k : Int) * (i.bytes : Int)) := by omega
  by_cases hk : k = 0
  · subst hk
    have hw0 : IntKind.i64.wrap 0 = 0 := by rw [IntKind.wrap_i64]; omega
    obtain ⟨h1, h0, h2⟩ := hown
    rcases h2 with ⟨rfl, rfl, rfl⟩ | ⟨g, off, c, cs, hbg, rfl, h3, h4, hr, h5, h6⟩
    · refine ⟨.slice none 0 0, w, ?_, ⟨by simpa using Own.nil w base e 1, Keeps.refl _ _, .inl rfl, fun _ => rfl⟩⟩
      simp [Builtin.append_, run_underlying ht, run_underlying htn, sizeOf, typeInfo, zeroValue, hi, hz, asInt, asIntOf, hw0]
    · refine ⟨.slice (some ⟨g, off, none⟩) n c, w, ?_, ⟨?_, Keeps.refl _ _, .inl rfl, fun h => by simp [Value.ownBlock] at h⟩⟩
      · simp [Builtin.append_, run_underlying ht, run_underlying htn, sizeOf, typeInfo, zeroValue, hi, hz, asInt, asIntOf, hw0, h3, storeCells]
      · have hO : Own w base e 1 (.slice (some ⟨g, off, none⟩) n c) n xs := ⟨h1, h0, .inr ⟨g, off, c, cs, hbg, rfl, h3, h4, hr, h5, h6⟩⟩
        simpa using hO
  · have hall : ∀ u ∈ xs ++ List.replicate k z, u.oneCell' = true := fun u hu => (List.mem_append.1 hu).elim (hown.2.1 u) (fun h => by rw [List.eq_of_mem_replicate h]; exact hz1)
    have hlen : (xs ++ List.replicate k z).length = (n + k) * 1 := by rw [List.length_append, hown.1, List.length_replicate]; omega
    have grown : ∀ (old : Nat) (S : Nat → Prop),
        Own (w.drew.alloc (.cells (xs.toArray ++ Builtin.zeroCells z.cells k ++ Builtin.zeroCells z.cells (grownCap w (n + k) old e - (n + k))) e)) base e 1 (.slice (some ⟨w.heap.size, 0, none⟩) (n + k) (grownCap w (n + k) old e)) (n + k) (xs ++ List.replicate k z) ∧
        Keeps S w (w.drew.alloc (.cells (xs.toArray ++ Builtin.zeroCells z.cells k ++ Builtin.zeroCells z.cells (grownCap w (n + k) old e - (n + k))) e)) := by
      intro old S
      have hge := grownCap_ge w (n + k) old e
      rw [hzc, zeroCells_one, zeroCells_one, List.append_toArray, List.append_toArray]
      refine ⟨⟨hlen, hall, .inr ⟨w.heap.size, 0, _, _, hbase, rfl, hge, grownCap_le_maxLen w (n + k) old e (by simp only [maxLen]; omega), RowAt.new w.drew _ _, ?_, fun j hj => ?_⟩⟩, ((Keeps.refl S w).drew).alloc _⟩
      · have := hown.1
        simp; omega
      · rw [Nat.zero_add, List.getElem?_toArray, List.getElem?_append_left (by rw [hlen]; exact hj)]
    obtain ⟨h1, h0, h2⟩ := hown
    rcases h2 with ⟨rfl, rfl, rfl⟩ | ⟨g, off, c, cs, hbg, rfl, h3, h4, hr, h5, h6⟩
    · have hrun := Lib.run_append_nil_zeros (P := P) w t tn ty e i z .i64 kn ht htn hi hz k (by omega) (by omega) (by omega) (by rw [← Int.natCast_mul] at hkb; omega)
      obtain ⟨g1, g2⟩ := grown 0 (fun b => (Value.slice none 0 0).ownBlock = some b)
      simp only [Nat.zero_add, List.nil_append] at g1 g2 ⊢
      rw [show ([] : List Value).toArray ++ Builtin.zeroCells z.cells k = Builtin.zeroCells z.cells k by simp] at g1 g2
      exact ⟨_, _, hrun, ⟨g1, g2, .inr ⟨_, rfl, Nat.le_refl _⟩, fun h => by simp [Value.ownBlock] at h⟩⟩
    · by_cases hroom : n + k ≤ c
      · have hfit : off + n + (List.replicate k z).length ≤ cs.size := by rw [List.length_replicate]; omega
        obtain ⟨cs', r1, r2, r3, r4⟩ := RowAt.setCells (List.replicate k z) (off + n) w cs hr hfit
        have hst := run_storeCells_cells (P := P) g (off + n) (List.replicate k z) 0 w (fun j hj => by rw [Nat.add_zero, hr.cell, Array.getElem?_eq_getElem (by omega)]; rfl) (fun j _ => hr.frozen _) (fun u hu => by rw [List.eq_of_mem_replicate hu]; exact hz1)
        simp only [Nat.add_zero] at hst
        refine ⟨.slice (some ⟨g, off, none⟩) (n + k) c, w.setCells g (off + n) (List.replicate k z), ?_, ⟨⟨hlen, hall, .inr ⟨g, off, c, cs', hbg, rfl, hroom, h4, r1, by omega, fun j hj => ?_⟩⟩, Keeps.setCells (S := fun b => (Value.slice (some ⟨g, off, none⟩) n c).ownBlock = some b) (.inl rfl) _ _ _ (Keeps.refl _ _), .inl rfl, fun h => by simp [Value.ownBlock] at h⟩⟩
        · simp [Builtin.append_, run_underlying ht, run_underlying htn, sizeOf, typeInfo, zeroValue, hi, hz, asInt, asIntOf, hw, hneg, h48i, hsz, hk, hroom, hzc, zeroCells_one, Addr.add_lit, hst]
        · by_cases hjn : j < n
          · rw [r4 (off + j) (.inl (by omega)), h6 j (by omega), List.getElem?_append_left (by rw [h1]; omega)]
          · have e1 : off + j = off + n + (j - n) := by omega
            rw [e1, r3 (j - n) (by rw [List.length_replicate]; omega), List.getElem?_append_right (by rw [h1]; omega), h1, Nat.mul_one]
      · have hold : (Builtin.firstCells i.size n (.slice (some ⟨g, off, none⟩) n c)).run P w.drew = .ok xs.toArray w.drew := by
          rw [hsz]
          exact run_firstCells_some w.drew 1 n _ n c xs h1 (fun j u hu => by rw [addr_add, (hr.drew).cell, h6 j (by rw [← h1]; exact (List.getElem?_eq_some_iff.1 hu).1), hu])
        have hrun := Lib.run_append_grow_zeros (P := P) w t tn ty e i z .i64 kn ht htn hi hz (some ⟨g, off, none⟩) n c xs hold k (by omega) (by omega) (by omega) (by omega) (by rw [← Int.natCast_mul] at hkb; omega)
          (growslice_fits (by omega) (by have : (n + k) * i.bytes ≤ 1000000000 * 100 := Nat.mul_le_mul hmax hbytes; omega))
        obtain ⟨g1, g2⟩ := grown c (fun b => (Value.slice (some ⟨g, off, none⟩) n c).ownBlock = some b)
        exact ⟨_, _, hrun, ⟨g1, g2, .inr ⟨_, rfl, Nat.le_refl _⟩, fun h => by simp [Value.ownBlock] at h⟩⟩

/-- .. onto no elements, with too little room: a new row. -/
theorem run_append_zeros_new {P : Program} (w : World) {t tn ty e : TypeId} {i : TypeInfo} {z : Value} {kn : IntKind} (a : Addr) (c k : Nat)
    (ht : P.underlying t = some (.slice e)) (htn : P.underlying tn = some (.int kn)) (hi : P.info? e = some i) (hz : i.zero = some z) (hsz : i.size = 1) (hby : i.bytes ≤ 100) (hzc : z.cells = #[z])
    (hc : c < k) (hmax : k ≤ 1000000000) :
    ∃ (N : Nat) (w' : World), (Builtin.append_ #[t, tn] ty #[.slice (some a) 0 c, .int .i64 (k : Int)]).run P w = .ok (.slice (some ⟨w.heap.size, 0, none⟩) k N) w' ∧
      k ≤ N ∧ N ≤ maxLen ∧ RowAt w' w.heap.size (List.replicate N z).toArray e ∧ Keeps (fun _ => False) w w' := by
  have hold : (Builtin.firstCells i.size 0 (.slice (some a) 0 c)).run P w.drew = .ok ([] : List Value).toArray w.drew := run_firstCells_some w.drew i.size 0 a 0 c [] (by simp) (fun j u hu => by simp at hu)
  have hb : k * i.bytes ≤ 1000000000 * 100 := Nat.mul_le_mul hmax hby
  have hrun := Lib.run_append_grow_zeros (P := P) w t tn ty e i z .i64 kn ht htn hi hz (some a) 0 c [] hold k (by omega) (by omega) (by omega) (by omega) (by omega)
    (growslice_fits (by omega) (by rw [Nat.zero_add]; omega))
  have hge := grownCap_ge w (0 + k) c e
  have hle := grownCap_le_maxLen w (0 + k) c e (by simp only [maxLen]; omega)
  simp only [Nat.zero_add] at hrun hge hle
  refine ⟨grownCap w k c e, _, hrun, hge, hle, ?_, ((Keeps.refl _ w).drew).alloc _⟩
  refine (RowAt.new w.drew _ _).eq ?_
  rw [hzc, zeroCells_one, zeroCells_one, List.append_toArray, List.append_toArray]
  congr 1
  rw [List.nil_append, List.replicate_append_replicate]
  congr 1
  omega

end Go.Proofs.YtekaoknpjpbjgaaDoor
