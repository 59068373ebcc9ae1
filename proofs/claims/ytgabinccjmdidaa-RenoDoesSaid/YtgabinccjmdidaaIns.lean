/- What an argument that is a slice of pairs of whole numbers gives a walk; RenoBounds' walk as the row asks for it. -/
import Derived.Test.YtgabinccjmdidaaWg
import Derived.ProofKit
import Derived.OpenShut
import Derived.Deep.SlicePairs
namespace Go.Proofs.Ytgabinccjmdidaa
open Go.RowKit Go.ChangeShapes Go.WideShapes Go.Deep

theorem i64_hi {n : Int} (h : (Lit.int .i64 n).wf = true) : n ≤ 9223372036854775807 := by
  simp [Lit.wf, IntKind.min, IntKind.max, IntKind.signed, IntKind.bits] at h
  omega

theorem addr_add (b off j : Nat) : (⟨b, off, none⟩ : Addr).add j = ⟨b, off + j, none⟩ := by unfold Addr.add; split <;> simp_all

theorem pairs_in {H : Type} {enc : TypeId × Value → H} {P : Program} {W : World} {t e : TypeId} {f0 f1 : Field} {a : Option Addr} {len cp : Nat} {d : DataW H} {p : List MemPlace}
    (ht : P.underlying t = some (.slice e)) (he : P.underlying e = some (.struct #[f0, f1])) (ce : P.cellsOf e = 2) (o0 : f0.offset = 0) (o1 : f1.offset = 1) (c0 : P.cellsOf f0.type = 1) (c1 : P.cellsOf f1.type = 1)
    (u0 : P.underlying f0.type = some (.int .i64)) (u1 : P.underlying f1.type = some (.int .i64)) (h : DataW.Trod enc P W 0 (fun _ => true) true t (.slice a len cp) d p) :
    ∃ z, PairsIn W a len z := by
  obtain ⟨fuel, hf⟩ := h
  rcases open_slice_pairs ht he ce o0 o1 c0 c1 hf with ⟨hcs, _⟩ | ⟨x, l, c, m, n, V0, V1, D0, D1, P0, P1, hcs, _, hl, hm, hmm, _, hx⟩
  · simp [Value.cells] at hcs
    obtain ⟨rfl, rfl, rfl⟩ := hcs
    exact ⟨fun _ => (0, 0), by omega, .inl rfl⟩
  · simp [Value.cells] at hcs
    obtain ⟨rfl, rfl, rfl⟩ := hcs
    simp only [maxLen] at hm
    refine ⟨fun i => (intOf (V0 i), intOf (V1 i)), by omega, ?_⟩
    by_cases h0 : len = 0
    · exact .inl h0
    refine .inr ?_
    have hmc : m = cp := by simpa using hmm
    obtain ⟨b, off, spot⟩ := x
    have hs : spot = none := by
      have := (hx 0 (by omega)).1
      simpa [Addr.add] using World.cell?_spot this
    subst hs
    refine ⟨b, off, rfl, ?_, fun i hi => ?_⟩
    · have := (hx 0 (by omega)).1
      have := World.block_lt_of_cell? W _ this
      simpa [Addr.add] using this
    · obtain ⟨h1, h2, h3, h4⟩ := hx i (by omega)
      obtain ⟨q0, e0, _, w0⟩ := DataW.trod_int u0 h3
      obtain ⟨q1, e1, _, w1⟩ := DataW.trod_int u1 h4
      simp only [List.cons.injEq, and_true] at e0 e1
      rw [e0] at h1
      rw [e1] at h2
      simp only [e0, e1]
      rw [addr_add] at h1 h2
      exact ⟨h1, h2, i64_hi w0, i64_hi w1⟩

theorem bounds_row (mss : Int) (a : Option Addr) (len cp : Nat) (z : Nat → Int × Int) (w : World) (_ : (Lit.int .i64 mss).wf = true) (hz : PairsIn w a len z) :
    Calls Try.prog 5 #[.int .i64 mss, .slice a len cp] w fun e w' => e = .returned (.bool true) ∧ Below w.heap.size w w' :=
  (bounds_walk mss a len cp z w hz).mono fun _ _ h => ⟨h.1, h.2.below _ (Nat.le_refl _) fun _ _ h => h⟩
end Go.Proofs.Ytgabinccjmdidaa
