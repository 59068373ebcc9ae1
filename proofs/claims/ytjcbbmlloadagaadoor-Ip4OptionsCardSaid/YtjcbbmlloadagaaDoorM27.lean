/- Words, walks and plain laws that the claim leans on, part 27. -/
import Derived.Test.YtjcbbmlloadagaaDoorM16
import Derived.Test.YtjcbbmlloadagaaDoorM21
import Derived.ChangeSame
import Derived.DataElems

/-! From a row's reading of options to the walks' words. -/
namespace Go.Proofs.YtjcbbmlloadagaaDoor
set_option linter.unusedVariables false
set_option linter.unusedSimpArgs false
open Go.ChangeShapes Go.WideShapes Go.ChangeAt Go.RowKit Go.Deep Go.Proofs.YtjcbbmlloadagaaDoor.PQ

instance : Inhabited S41 := ⟨⟨0, ⟨#[]⟩⟩⟩
section
variable {H : Type} {enc : TypeId × Value → H} {W : World}

set_option maxRecDepth 100000 in
theorem open_exts {r : Reach} {b0 : Nat} {v : Value} {d : DataW H} {ps : List MemPlace} (hval : Value.okWide Tryd.prog W r b0 29 v) (h : DataW.Trod enc Tryd.prog W 0 (fun _ => true) true 29 v d ps) :
    ∃ L : List S41, XRd W v L ∧ L.length ≤ 9223372036854775807 := by
  obtain ⟨a, len, cap, rfl⟩ := okWide_slice Tryd.underlying29 hval
  obtain ⟨fuel, hf⟩ := h
  have k2 : Tryd.prog.cellsOf 41 = 2 := by kernel_rfl
  have k3 : Tryd.prog.cellsOf 3 = 1 := by kernel_rfl
  have k9 : Tryd.prog.cellsOf 9 = 1 := by kernel_rfl
  rcases DataW.trod_slice Tryd.underlying29 hf with ⟨h1, -⟩ | ⟨a', len', cap', elems, rest, n, -, h1, -, -, hlc, hcm, hel, hx, -, -⟩
  · obtain ⟨rfl, rfl, rfl⟩ : a = none ∧ len = 0 ∧ cap = 0 := by simpa [Value.cells] using h1
    exact ⟨[], ⟨none, 0, rfl, Nat.le_refl _, rfl, by decide, fun h => absurd h (Nat.lt_irrefl _)⟩, by simp⟩
  · obtain ⟨rfl, rfl, rfl⟩ : a = some a' ∧ len = len' ∧ cap = cap' := by simpa [Value.cells] using h1
    rw [k2] at hx
    have hel' : ∀ i, i < len → ∃ x : S41, W.cell? (a'.add (i * 2 + 0)) = some (.int .i64 x.f0) ∧ W.cell? (a'.add (i * 2 + 1)) = some (.string x.f1) := fun i hi => by
      have e := hx i hi
      rw [List.getElem?_eq_getElem (by omega)] at e
      obtain ⟨cs, c1, c2⟩ := Option.bind_eq_some_iff.1 e
      obtain ⟨u0, u1, rfl, d0, d1⟩ : ∃ u0 u1, cs = [u0, u1] ∧ W.cell? ((a'.add (i * 2)).add 0) = some u0 ∧ W.cell? ((a'.add (i * 2)).add 1) = some u1 := by
        unfold World.cells? at c1
        rw [if_pos (Nat.zero_le _)] at c1
        simp only [List.range_succ, List.range_zero, List.nil_append, List.cons_append, List.mapM_cons, List.mapM_nil, Option.bind_eq_bind, Option.pure_def] at c1
        obtain ⟨u0, h0, c1⟩ := Option.bind_eq_some_iff.1 c1
        obtain ⟨l, h1, c1⟩ := Option.bind_eq_some_iff.1 c1
        obtain ⟨u1, h2, h1⟩ := Option.bind_eq_some_iff.1 h1
        simp at c1 h1
        exact ⟨u0, u1, by rw [← c1, ← h1], h0, h2⟩
      obtain ⟨y0, y1, n', -, -, e0, e1⟩ := trod_struct2 Tryd.underlying41 c2
      have e0' : DataW.trod enc Tryd.prog W 0 (fun _ => true) true n' 3 [u0] = some y0 := e0
      have e1' : DataW.trod enc Tryd.prog W 0 (fun _ => true) true n' 9 [u1] = some y1 := e1
      obtain ⟨K, f0, -, -⟩ := DataW.trod_int Tryd.underlying3 e0'
      obtain ⟨D, f1, -, -⟩ := DataW.trod_string Tryd.underlying9 e1'
      rw [Addr.add_add] at d0 d1
      exact ⟨⟨K, D⟩, by rw [d0, (List.cons.inj f0).1], by rw [d1, (List.cons.inj f1).1]⟩
    obtain ⟨f, hf'⟩ := choose_lt (α := S41) hel'
    have hlen : ((List.range len).map f).length = len := by simp
    refine ⟨(List.range len).map f, ⟨some a', cap, by rw [hlen], by rw [hlen]; exact hlc, hlen.trans hlen.symm, by rw [hlen]; have := hcm; unfold maxLen at this; omega, fun _ => ⟨a', rfl, fun j p hp => ?_⟩⟩, by rw [hlen]; have := hcm; unfold maxLen at this; omega⟩
    have hj : j < len := by have := (List.getElem?_eq_some_iff.1 hp).1; rwa [hlen] at this
    have hpf : p = f j := by simpa [hj] using hp.symm
    subst hpf
    refine ⟨_, rfl, Go.Proofs.YtjcbbmlloadagaaDoor.PQ.k41_mk _ _, fun i u hu => ?_⟩
    rw [show Go.Proofs.YtjcbbmlloadagaaDoor.PQ.k41.sz = 2 from rfl]
    rcases i with _ | _ | i
    · simp at hu; rw [(hf' j hj).1, ← hu]
    · simp at hu; rw [(hf' j hj).2, ← hu]
    · simp at hu
end
end Go.Proofs.YtjcbbmlloadagaaDoor
