/- Words, walks and plain laws that the claim leans on, part 13. -/
import Derived.Test.YtiodmhcmciohnaaK6
import Derived.Test.YtiodmhcmciohnaaK12

/-! From a row's reading of a slice of ints to the walks' words. -/
namespace Go.Proofs.Ytiodmhcmciohnaa
set_option linter.unusedVariables false
set_option linter.unusedSimpArgs false
open Go.ChangeShapes Go.WideShapes Go.ChangeAt Go.RowKit Go.Deep
section
variable {H : Type} {enc : TypeId × Value → H} {P : Program} {W : World} {base : Nat}
theorem open_ints {t e : TypeId} {v : Value} {d : DataW H} {p : List MemPlace} (ht : P.underlying t = some (.slice e)) (hc : P.cellsOf e = 1) (he : P.underlying e = some (.int .i64)) {r : Reach} {b0 : Nat} (hval : Value.okWide P W r b0 t v) (h : DataW.Trod enc P W base (fun _ => true) true t v d p) :
    ∃ l, ZAt W (· < W.heap.size) v l := by
  obtain ⟨fuel, hf⟩ := trod_slice_cells ht hval h
  obtain ⟨n, m, V, D, Pl, hS, hx⟩ := open_cells ht hc hf
  have hV : ∀ i, i < n → ∃ c : Int, V i = .int .i64 c := fun i hi => by
    obtain ⟨k, h1, -, h2⟩ := DataW.trod_int he (hx i hi)
    exact ⟨k, by simpa using h1⟩
  obtain ⟨f, hf⟩ := choose_lt (α := Int) hV
  refine ⟨(List.range n).map f, ?_⟩
  have e1 : (List.range n).map V = zcells ((List.range n).map f) := by
    unfold zcells
    rw [List.map_map]
    exact List.map_congr_left fun i hi => hf i (List.mem_range.1 hi)
  unfold ZAt
  rw [← e1]
  simpa using hS
end
end Go.Proofs.Ytiodmhcmciohnaa
