/- Words, walks and plain laws that the claim leans on, part 16. -/
import Derived.Test.YtiodmhcmciohnaaG13
import Derived.Test.YtiodmhcmciohnaaG15
import Derived.SizedLaws
import Derived.Lib.SmallJoins

/-! From a row's reading of a script to the walks' words. -/
namespace Go.Proofs.Ytiodmhcmciohnaa
set_option linter.unusedVariables false
set_option linter.unusedSimpArgs false
open Go.ChangeShapes Go.WideShapes Go.ChangeAt Go.RowKit Go.Deep

instance : Inhabited OpV := ⟨⟨0, 0, 0, []⟩⟩
theorem weightsAll_mem {H : Type} {P : Program} {e : TypeId} : ∀ {ds : List (DataW H)} {d : DataW H}, d ∈ ds → ∀ n ∈ d.weights P e, n ∈ DataW.weightsAll P e ds
  | d0 :: ds, d, hd, n, hn => by
    unfold DataW.weightsAll
    rcases List.mem_cons.1 hd with rfl | hd
    · exact List.mem_append_left _ hn
    · exact List.mem_append_right _ (weightsAll_mem hd n hn)
section
variable {H : Type} {enc : TypeId × Value → H} {W : World}

theorem bytes_len {fuel : Nat} {v : Value} {x : DataW H × List MemPlace} {l : List UInt8} (hb : BAt W (· < W.heap.size) v l) (h : DataW.trod enc Try.prog W 0 (fun _ => true) true fuel 30 [v] = some x) (hs : ∀ n ∈ x.1.weights Try.prog 30, n ≤ reachBytes) : l.length ≤ 140737488355328 := by
  obtain ⟨a, c, rfl, -, -⟩ := hb.slice
  rcases DataW.trod_slice Try.underlying30 h with ⟨h1, -⟩ | ⟨a', len', cap', elems, rest, n, -, h1, rfl, -, hlc, hcm, hel, -⟩
  · have : Value.slice a l.length c = .slice none 0 0 := by simpa using h1
    simp only [Value.slice.injEq] at this
    omega
  · have : Value.slice a l.length c = .slice (some a') len' cap' := by simpa using h1
    simp only [Value.slice.injEq] at this
    have hw := hs ((elems.map (·.1)).length + (rest.map (·.1)).length |>.mul (Try.prog.bytesOf 5)) (by
      unfold DataW.weights
      rw [Try.underlying30]
      exact List.mem_cons_self)
    rw [show Try.prog.bytesOf 5 = 1 by kernel_rfl] at hw
    have hw' : ((elems.map (·.1)).length + (rest.map (·.1)).length) * 1 ≤ reachBytes := hw
    have hr : reachBytes = 140737488351232 := by kernel_rfl
    rw [List.length_map, hr] at hw'
    omega

set_option maxRecDepth 100000 in
theorem open_ops {r : Reach} {b0 : Nat} {v : Value} {d : DataW H} {ps : List MemPlace} (hval : Value.okWide Try.prog W r b0 22 v) (h : DataW.Trod enc Try.prog W 0 (fun _ => true) true 22 v d ps)
    (hs : ∀ n ∈ d.weights Try.prog 22, n ≤ reachBytes) : ∃ L : List OpV, ORd W v L := by
  obtain ⟨a, len, cap, rfl⟩ := okWide_slice Try.underlying22 hval
  obtain ⟨fuel, hf⟩ := h
  have k2 : Try.prog.cellsOf 35 = 4 := by kernel_rfl
  have k3 : Try.prog.cellsOf 3 = 1 := by kernel_rfl
  have k9 : Try.prog.cellsOf 30 = 1 := by kernel_rfl
  rcases DataW.trod_slice Try.underlying22 hf with ⟨h1, -⟩ | ⟨a', len', cap', elems, rest, n, -, h1, hd, -, hlc, hcm, hel, hx, -, -⟩
  · obtain ⟨rfl, rfl, rfl⟩ : a = none ∧ len = 0 ∧ cap = 0 := by simpa [Value.cells] using h1
    exact ⟨[], [], rfl, SAt.nil W _ 4, fun _ h => by cases h⟩
  · obtain ⟨rfl, rfl, rfl⟩ : a = some a' ∧ len = len' ∧ cap = cap' := by simpa [Value.cells] using h1
    rw [k2] at hx
    have hel' : ∀ i, i < len → ∃ x : OpV × Value, W.cell? (a'.add (i * 4 + 0)) = some (.int .i64 x.1.call) ∧ W.cell? (a'.add (i * 4 + 1)) = some (.int .i64 x.1.at') ∧ W.cell? (a'.add (i * 4 + 2)) = some (.int .i64 x.1.n) ∧ W.cell? (a'.add (i * 4 + 3)) = some x.2 ∧ BRd W x.2 x.1.data ∧ OpFit x.1 := fun i hi => by
      have e := hx i hi
      rw [List.getElem?_eq_getElem (by omega)] at e
      obtain ⟨cs, c1, c2⟩ := Option.bind_eq_some_iff.1 e
      obtain ⟨u0, u1, u2, u3, rfl, d0, d1, d2, d3⟩ : ∃ u0 u1 u2 u3, cs = [u0, u1, u2, u3] ∧ W.cell? ((a'.add (i * 4)).add 0) = some u0 ∧ W.cell? ((a'.add (i * 4)).add 1) = some u1 ∧ W.cell? ((a'.add (i * 4)).add 2) = some u2 ∧ W.cell? ((a'.add (i * 4)).add 3) = some u3 := by
        unfold World.cells? at c1
        rw [if_pos (Nat.zero_le _)] at c1
        simp only [List.range_succ, List.range_zero, List.nil_append, List.cons_append, List.mapM_cons, List.mapM_nil, Option.bind_eq_bind, Option.pure_def] at c1
        obtain ⟨u0, h0, c1⟩ := Option.bind_eq_some_iff.1 c1
        obtain ⟨l, h1, c1⟩ := Option.bind_eq_some_iff.1 c1
        obtain ⟨u1, h2, h1⟩ := Option.bind_eq_some_iff.1 h1
        obtain ⟨l2, h3, h1⟩ := Option.bind_eq_some_iff.1 h1
        obtain ⟨u2, h4, h3⟩ := Option.bind_eq_some_iff.1 h3
        obtain ⟨l3, h5, h3⟩ := Option.bind_eq_some_iff.1 h3
        obtain ⟨u3, h6, h5⟩ := Option.bind_eq_some_iff.1 h5
        simp at c1 h1 h3 h5
        exact ⟨u0, u1, u2, u3, by rw [← c1, ← h1, ← h3, ← h5], h0, h2, h4, h6⟩
      obtain ⟨y0, y1, y2, y3, n', hy, -, e0, e1, e2, e3⟩ := Joins.trod_struct4 Try.underlying35 c2
      have e0' : DataW.trod enc Try.prog W 0 (fun _ => true) true n' 3 [u0] = some y0 := e0
      have e1' : DataW.trod enc Try.prog W 0 (fun _ => true) true n' 3 [u1] = some y1 := e1
      have e2' : DataW.trod enc Try.prog W 0 (fun _ => true) true n' 3 [u2] = some y2 := e2
      have e3' : DataW.trod enc Try.prog W 0 (fun _ => true) true n' 30 [u3] = some y3 := e3
      obtain ⟨K0, f0, -, w0⟩ := DataW.trod_int Try.underlying3 e0'
      obtain ⟨K1, f1, -, w1⟩ := DataW.trod_int Try.underlying3 e1'
      obtain ⟨K2, f2, -, w2⟩ := DataW.trod_int Try.underlying3 e2'
      obtain ⟨l, hb⟩ := open_bytes' Try.underlying30 k9 Try.underlying5 e3'
      have hbl := bytes_len hb e3' (fun n hn => hs n (by
        rw [show d = _ from (Prod.mk.inj hd).1]
        unfold DataW.weights
        rw [Try.underlying22]
        refine List.mem_cons_of_mem _ (List.mem_append_left _ (weightsAll_mem (d := elems[i].1) (List.mem_map.2 ⟨_, List.getElem_mem _, rfl⟩) n ?_))
        rw [hy]
        unfold DataW.weights
        rw [Try.underlying35]
        exact DataW.weights_mem_each (j := 3) (t := 30) (d := y3.1) rfl rfl n hn))
      rw [Addr.add_add] at d0 d1 d2 d3
      have g0 : -9223372036854775808 ≤ K0 ∧ K0 ≤ 9223372036854775807 := by simpa [Lit.wf, IntKind.min, IntKind.max, IntKind.signed, IntKind.bits] using w0
      have g1 : -9223372036854775808 ≤ K1 ∧ K1 ≤ 9223372036854775807 := by simpa [Lit.wf, IntKind.min, IntKind.max, IntKind.signed, IntKind.bits] using w1
      have g2 : -9223372036854775808 ≤ K2 ∧ K2 ≤ 9223372036854775807 := by simpa [Lit.wf, IntKind.min, IntKind.max, IntKind.signed, IntKind.bits] using w2
      exact ⟨(⟨K0, K1, K2, l⟩, u3), by rw [d0, (List.cons.inj f0).1], by rw [d1, (List.cons.inj f1).1], by rw [d2, (List.cons.inj f2).1], d3, hb, ⟨g0.1, g0.2, g1.1, g1.2, g2.1, g2.2, hbl⟩⟩
    obtain ⟨f, hf'⟩ := choose_lt (α := OpV × Value) hel'
    have hlen : ((List.range len).map f).length = len := by simp
    refine ⟨((List.range len).map f).map (·.1), (List.range len).map f, rfl, ⟨by simp [flatO_length], some a', cap, by rw [List.length_map, hlen], by rw [List.length_map, hlen]; exact hlc, hcm, ?_⟩, fun q hq => ?_⟩
    · rcases Nat.eq_zero_or_pos len with h0 | h0
      · subst h0
        exact .inl (by simp [flatO])
      · right
        have h00 := (hf' 0 h0).1
        obtain ⟨b, off, spot⟩ := a'
        have hspot : spot = none := by
          cases spot with
          | none => rfl
          | some s =>
            simp only [Nat.zero_mul, Nat.add_zero, Addr.add, if_true] at h00
            unfold World.cell? at h00
            split at h00
            · simp at h00
            · cases h00
        subst hspot
        refine ⟨b, off, ?_, rfl, fun j u hu => ?_⟩
        · have h01 := h00
          rw [addr_add] at h01
          exact World.block_lt_of_cell? W _ h01
        · have hj : j < len * 4 := by
            have := (List.getElem?_eq_some_iff.1 hu).1
            rwa [flatO_length, hlen] at this
          have hi4 : j / 4 < len := by omega
          have hq : ((List.range len).map f)[j / 4]? = some (f (j / 4)) := by simp [hi4]
          have hg := flatO_get _ (j / 4) _ (j % 4) hq (by omega)
          rw [show j / 4 * 4 + j % 4 = j by omega] at hg
          rw [hg] at hu
          obtain ⟨h0, h1, h2, h3, -⟩ := hf' (j / 4) hi4
          rw [addr_add] at h0 h1 h2 h3
          have hj4 : j % 4 = 0 ∨ j % 4 = 1 ∨ j % 4 = 2 ∨ j % 4 = 3 := by omega
          unfold ocells at hu
          rcases hj4 with e | e | e | e
          · rw [e] at hu
            rw [show off + j = off + (j / 4 * 4 + 0) by omega, h0]
            simpa using hu
          · rw [e] at hu
            rw [show off + j = off + (j / 4 * 4 + 1) by omega, h1]
            simpa using hu
          · rw [e] at hu
            rw [show off + j = off + (j / 4 * 4 + 2) by omega, h2]
            simpa using hu
          · rw [e] at hu
            rw [show off + j = off + (j / 4 * 4 + 3) by omega, h3]
            simpa using hu
    · obtain ⟨i, hi, rfl⟩ := List.mem_map.1 hq
      have := hf' i (List.mem_range.1 hi)
      exact ⟨this.2.2.2.2.1, this.2.2.2.2.2⟩
end
end Go.Proofs.Ytiodmhcmciohnaa
