/- Words, walks and plain laws that the claim leans on, part 18. -/
import Derived.Test.YtiodmhcmciohnaaK12
import Derived.Test.YtiodmhcmciohnaaK16
import Derived.SizedLaws
import Derived.Lib.SmallJoins

/-! From a row's reading of rows of three numbers to the walks' words. -/
namespace Go.Proofs.Ytiodmhcmciohnaa
set_option linter.unusedVariables false
set_option linter.unusedSimpArgs false
open Go.ChangeShapes Go.WideShapes Go.ChangeAt Go.RowKit Go.Deep

instance : Inhabited TriV := ⟨⟨0, 0, 0⟩⟩
section
variable {H : Type} {enc : TypeId × Value → H} {W : World}

set_option maxRecDepth 100000 in
theorem open_tris {r : Reach} {b0 : Nat} {v : Value} {d : DataW H} {ps : List MemPlace} (hval : Value.okWide Try.prog W r b0 46 v) (h : DataW.Trod enc Try.prog W 0 (fun _ => true) true 46 v d ps) : ∃ L : List TriV, TriRd W v L := by
  obtain ⟨a, len, cap, rfl⟩ := okWide_slice Try.underlying46 hval
  obtain ⟨fuel, hf⟩ := h
  have k2 : Try.prog.cellsOf 48 = 3 := by kernel_rfl
  have k3 : Try.prog.cellsOf 3 = 1 := by kernel_rfl
  rcases DataW.trod_slice Try.underlying46 hf with ⟨h1, -⟩ | ⟨a', len', cap', elems, rest, n, -, h1, -, -, hlc, hcm, hel, hx, -, -⟩
  · obtain ⟨rfl, rfl, rfl⟩ : a = none ∧ len = 0 ∧ cap = 0 := by simpa [Value.cells] using h1
    exact ⟨[], SAt.nil W _ 3, fun _ h => by cases h⟩
  · obtain ⟨rfl, rfl, rfl⟩ : a = some a' ∧ len = len' ∧ cap = cap' := by simpa [Value.cells] using h1
    rw [k2] at hx
    have hel' : ∀ i, i < len → ∃ x : TriV, W.cell? (a'.add (i * 3 + 0)) = some (.int .i64 x.at') ∧ W.cell? (a'.add (i * 3 + 1)) = some (.int .i64 x.n) ∧ W.cell? (a'.add (i * 3 + 2)) = some (.int .i64 x.read) ∧ TriFit x := fun i hi => by
      have e := hx i hi
      rw [List.getElem?_eq_getElem (by omega)] at e
      obtain ⟨cs, c1, c2⟩ := Option.bind_eq_some_iff.1 e
      obtain ⟨u0, u1, u2, rfl, d0, d1, d2⟩ : ∃ u0 u1 u2, cs = [u0, u1, u2] ∧ W.cell? ((a'.add (i * 3)).add 0) = some u0 ∧ W.cell? ((a'.add (i * 3)).add 1) = some u1 ∧ W.cell? ((a'.add (i * 3)).add 2) = some u2 := by
        unfold World.cells? at c1
        rw [if_pos (Nat.zero_le _)] at c1
        simp only [List.range_succ, List.range_zero, List.nil_append, List.cons_append, List.mapM_cons, List.mapM_nil, Option.bind_eq_bind, Option.pure_def] at c1
        obtain ⟨u0, h0, c1⟩ := Option.bind_eq_some_iff.1 c1
        obtain ⟨l, h1, c1⟩ := Option.bind_eq_some_iff.1 c1
        obtain ⟨u1, h2, h1⟩ := Option.bind_eq_some_iff.1 h1
        obtain ⟨l2, h3, h1⟩ := Option.bind_eq_some_iff.1 h1
        obtain ⟨u2, h4, h3⟩ := Option.bind_eq_some_iff.1 h3
        simp at c1 h1 h3
        exact ⟨u0, u1, u2, by rw [← c1, ← h1, ← h3], h0, h2, h4⟩
      obtain ⟨y0, y1, y2, n', hy, -, e0, e1, e2⟩ := trod_struct3 Try.underlying48 c2
      have e0' : DataW.trod enc Try.prog W 0 (fun _ => true) true n' 3 [u0] = some y0 := e0
      have e1' : DataW.trod enc Try.prog W 0 (fun _ => true) true n' 3 [u1] = some y1 := e1
      have e2' : DataW.trod enc Try.prog W 0 (fun _ => true) true n' 3 [u2] = some y2 := e2
      obtain ⟨K0, f0, -, w0⟩ := DataW.trod_int Try.underlying3 e0'
      obtain ⟨K1, f1, -, w1⟩ := DataW.trod_int Try.underlying3 e1'
      obtain ⟨K2, f2, -, w2⟩ := DataW.trod_int Try.underlying3 e2'
      rw [Addr.add_add] at d0 d1 d2
      have g0 : -9223372036854775808 ≤ K0 ∧ K0 ≤ 9223372036854775807 := by simpa [Lit.wf, IntKind.min, IntKind.max, IntKind.signed, IntKind.bits] using w0
      have g1 : -9223372036854775808 ≤ K1 ∧ K1 ≤ 9223372036854775807 := by simpa [Lit.wf, IntKind.min, IntKind.max, IntKind.signed, IntKind.bits] using w1
      have g2 : -9223372036854775808 ≤ K2 ∧ K2 ≤ 9223372036854775807 := by simpa [Lit.wf, IntKind.min, IntKind.max, IntKind.signed, IntKind.bits] using w2
      exact ⟨⟨K0, K1, K2⟩, by rw [d0, (List.cons.inj f0).1], by rw [d1, (List.cons.inj f1).1], by rw [d2, (List.cons.inj f2).1], ⟨g0.1, g0.2, g1.1, g1.2, g2.1, g2.2⟩⟩
    obtain ⟨f, hf'⟩ := choose_lt (α := TriV) hel'
    have hlen : ((List.range len).map f).length = len := by simp
    refine ⟨(List.range len).map f, ⟨by rw [flat3_length], some a', cap, by rw [hlen], by rw [hlen]; exact hlc, hcm, ?_⟩, fun q hq => ?_⟩
    · rcases Nat.eq_zero_or_pos len with h0 | h0
      · subst h0
        exact .inl (by simp [flat3])
      · right
        have h00 := (hf' 0 h0).1
        obtain ⟨b, off, spot⟩ := a'
        have hspot : spot = none := by
          cases spot with
          | none => rfl
          | some s =>
            simp only [Nat.zero_mul, Nat.add_zero, Addr.add, if_true] at h00
            unfold World.cell? at h00
            split at h00
            · simp at h00
            · cases h00
        subst hspot
        refine ⟨b, off, ?_, rfl, fun j u hu => ?_⟩
        · have h01 := h00
          rw [addr_add] at h01
          exact World.block_lt_of_cell? W _ h01
        · have hj : j < len * 3 := by
            have := (List.getElem?_eq_some_iff.1 hu).1
            rwa [flat3_length, hlen] at this
          have hi4 : j / 3 < len := by omega
          have hq : ((List.range len).map f)[j / 3]? = some (f (j / 3)) := by simp [hi4]
          have hg := flat3_get _ (j / 3) _ (j % 3) hq (by omega)
          rw [show j / 3 * 3 + j % 3 = j by omega] at hg
          rw [hg] at hu
          obtain ⟨h0, h1, h2, -⟩ := hf' (j / 3) hi4
          rw [addr_add] at h0 h1 h2
          have hj4 : j % 3 = 0 ∨ j % 3 = 1 ∨ j % 3 = 2 := by omega
          unfold tcells at hu
          rcases hj4 with e | e | e
          · rw [e] at hu
            rw [show off + j = off + (j / 3 * 3 + 0) by omega, h0]
            simpa using hu
          · rw [e] at hu
            rw [show off + j = off + (j / 3 * 3 + 1) by omega, h1]
            simpa using hu
          · rw [e] at hu
            rw [show off + j = off + (j / 3 * 3 + 2) by omega, h2]
            simpa using hu
    · obtain ⟨i, hi, rfl⟩ := List.mem_map.1 hq
      exact (hf' i (List.mem_range.1 hi)).2.2.2
end
end Go.Proofs.Ytiodmhcmciohnaa
