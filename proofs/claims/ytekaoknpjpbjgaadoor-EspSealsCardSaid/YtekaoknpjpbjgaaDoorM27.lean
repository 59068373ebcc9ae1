/- Words, walks and plain laws that the claim leans on, part 27. -/
import Derived.Test.YtekaoknpjpbjgaaDoorM3
import Derived.ProofKit
import Derived.OpenShut
import Derived.Deep.Slices

/-! From a row's reading of an argument to the words of the walks: slices of one-cell elements, bytes, a byte; and the card's end. -/
namespace Go.Proofs.YtekaoknpjpbjgaaDoor
set_option linter.unusedVariables false
set_option linter.unusedSimpArgs false
open Go.ChangeShapes Go.WideShapes Go.ChangeAt Go.RowKit Go.Deep

section
variable {H : Type} {enc : TypeId × Value → H} {P : Program} {W : World} {base : Nat}

theorem open_cells {t e : TypeId} {fuel : Nat} {v : Value} {x : DataW H × List MemPlace} (ht : P.underlying t = some (.slice e)) (hc : P.cellsOf e = 1) (h : DataW.trod enc P W base (fun _ => true) true fuel t [v] = some x) :
    ∃ (n m : Nat) (V : Nat → Value) (D : Nat → DataW H) (Pl : Nat → List MemPlace), SAt W (· < W.heap.size) 1 v n ((List.range n).map V) ∧
      ∀ i, i < n → DataW.trod enc P W base (fun _ => true) true m e [V i] = some (D i, Pl i) := by
  rcases open_slice1 ht hc h with ⟨h1, -⟩ | ⟨a, len, cap, m, n, V, D, Pl, h1, -, hl, hm, hmm, -, hx⟩
  · obtain rfl : v = .slice none 0 0 := by simpa using h1
    exact ⟨0, 0, fun _ => .bool false, fun _ => .nil, fun _ => [], ⟨by simp, none, 0, rfl, Nat.le_refl _, Nat.zero_le _, .inl (by simp)⟩, fun i hi => absurd hi (Nat.not_lt_zero _)⟩
  · obtain rfl : v = .slice (some a) len cap := by simpa using h1
    have hmc : m = cap := by rw [hmm]; rfl
    subst hmc
    refine ⟨len, n, V, D, Pl, ⟨by simp, some a, m, rfl, hl, hm, ?_⟩, fun i hi => (hx i (by omega)).2⟩
    rcases Nat.eq_zero_or_pos len with h0 | h0
    · subst h0
      exact .inl (by simp)
    · right
      have h00 := (hx 0 (by omega)).1
      obtain ⟨b, off, spot⟩ := a
      have hspot : spot = none := by
        cases spot with
        | none => rfl
        | some s =>
          simp only [Addr.add, if_true] at h00
          unfold World.cell? at h00
          split at h00
          · simp at h00
          · cases h00
      subst hspot
      have hadd : ∀ i, (⟨b, off, none⟩ : Addr).add i = ⟨b, off + i, none⟩ := fun i => by
        unfold Addr.add
        split
        · next h => subst h; rfl
        · rfl
      refine ⟨b, off, World.block_lt_of_cell? W _ h00, rfl, fun j u hu => ?_⟩
      have hj : j < len := by
        have := (List.getElem?_eq_some_iff.1 hu).1
        simpa using this
      have hu' : V j = u := by simpa [hj] using hu
      rw [← hadd, ← hu']
      exact (hx j (by omega)).1

theorem byte_of_wf {n : Int} (h : (Lit.int .u8 n).wf = true) : ∃ c : UInt8, n = (c.toNat : Int) := by
  have h1 : 0 ≤ n ∧ n ≤ 255 := by simpa [Lit.wf, IntKind.min, IntKind.max, IntKind.signed, IntKind.bits] using h
  refine ⟨UInt8.ofNat n.toNat, ?_⟩
  rw [UInt8.toNat_ofNat']
  omega

theorem open_bytes' {t e : TypeId} {fuel : Nat} {v : Value} {x : DataW H × List MemPlace} (ht : P.underlying t = some (.slice e)) (hc : P.cellsOf e = 1) (he : P.underlying e = some (.int .u8)) (h : DataW.trod enc P W base (fun _ => true) true fuel t [v] = some x) :
    ∃ l, BAt W (· < W.heap.size) v l := by
  obtain ⟨n, m, V, D, Pl, hS, hx⟩ := open_cells ht hc h
  have hV : ∀ i, i < n → ∃ c : UInt8, V i = .int .u8 (c.toNat : Int) := fun i hi => by
    obtain ⟨k, h1, -, h2⟩ := DataW.trod_int he (hx i hi)
    obtain ⟨c, rfl⟩ := byte_of_wf h2
    exact ⟨c, by simpa using h1⟩
  obtain ⟨f, hf⟩ := choose_lt (α := UInt8) hV
  refine ⟨(List.range n).map f, ?_⟩
  have e1 : (List.range n).map V = bcells ((List.range n).map f) := by
    unfold bcells
    rw [List.map_map]
    exact List.map_congr_left fun i hi => hf i (List.mem_range.1 hi)
  unfold BAt
  rw [← e1]
  simpa using hS

theorem trod_slice_cells {t e : TypeId} {v : Value} {d : DataW H} {p : List MemPlace} (ht : P.underlying t = some (.slice e)) {r : Reach} {b0 : Nat} (hval : Value.okWide P W r b0 t v) (h : DataW.Trod enc P W base (fun _ => true) true t v d p) :
    ∃ fuel, DataW.trod enc P W base (fun _ => true) true fuel t [v] = some (d, p) := by
  obtain ⟨a, len, cap, rfl⟩ := okWide_slice ht hval
  exact h

theorem open_bytes {t e : TypeId} {v : Value} {d : DataW H} {p : List MemPlace} (ht : P.underlying t = some (.slice e)) (hc : P.cellsOf e = 1) (he : P.underlying e = some (.int .u8)) {r : Reach} {b0 : Nat} (hval : Value.okWide P W r b0 t v) (h : DataW.Trod enc P W base (fun _ => true) true t v d p) :
    ∃ l, BAt W (· < W.heap.size) v l := by
  obtain ⟨fuel, hf⟩ := trod_slice_cells ht hval h
  exact open_bytes' ht hc he hf
theorem open_rows {t e c : TypeId} {v : Value} {d : DataW H} {p : List MemPlace} (ht : P.underlying t = some (.slice e)) (hc : P.cellsOf e = 1) (he : P.underlying e = some (.slice c)) (hcc : P.cellsOf c = 1) (hec : P.underlying c = some (.int .u8)) {r : Reach} {b0 : Nat} (hval : Value.okWide P W r b0 t v) (h : DataW.Trod enc P W base (fun _ => true) true t v d p) :
    ∃ ls, BBAt W (· < W.heap.size) (· < W.heap.size) v ls := by
  obtain ⟨fuel, hf⟩ := trod_slice_cells ht hval h
  obtain ⟨n, m, V, D, Pl, hS, hx⟩ := open_cells ht hc hf
  have hV : ∀ i, i < n → ∃ l, BAt W (· < W.heap.size) (V i) l := fun i hi => open_bytes' he hcc hec (hx i hi)
  obtain ⟨f, hf⟩ := choose_lt (α := List UInt8) hV
  refine ⟨(List.range n).map f, (List.range n).map V, by simp, by simpa using hS, fun i x l h1 h2 => ?_⟩
  have hi : i < n := by simpa using (List.getElem?_eq_some_iff.1 h1).1
  have e1 : V i = x := by simpa [hi] using h1
  have e2 : f i = l := by simpa [hi] using h2
  rw [← e1, ← e2]
  exact hf i hi
end
end Go.Proofs.YtekaoknpjpbjgaaDoor
