/- Words, walks and plain laws that the claim leans on, part 28. -/
import Derived.Test.YtekaoknpjpbjgaaDoorM23
import Derived.Test.YtekaoknpjpbjgaaDoorM27
import Derived.SizedLaws

/-! From a row's reading of an association to the walks' words. -/
namespace Go.Proofs.YtekaoknpjpbjgaaDoor
set_option linter.unusedVariables false
set_option linter.unusedSimpArgs false
open Go.ChangeShapes Go.WideShapes Go.ChangeAt Go.RowKit Go.Deep

section
variable {H : Type} {enc : TypeId × Value → H} {W : World}

theorem consn {α : Type} (l : List α) (n : Nat) (h : l.length = n + 1) : ∃ a r, l = a :: r ∧ r.length = n := by
  cases l with
  | nil => simp at h
  | cons a r => exact ⟨a, r, rfl, by simpa using h⟩
theorem list6 {α : Type} (l : List α) (h : l.length = 6) : ∃ a0 a1 a2 a3 a4 a5, l = [a0, a1, a2, a3, a4, a5] := by
  obtain ⟨a0, l1, rfl, q1⟩ := consn l 5 h
  obtain ⟨a1, l2, rfl, q2⟩ := consn l1 4 q1
  obtain ⟨a2, l3, rfl, q3⟩ := consn l2 3 q2
  obtain ⟨a3, l4, rfl, q4⟩ := consn l3 2 q3
  obtain ⟨a4, l5, rfl, q5⟩ := consn l4 1 q4
  obtain ⟨a5, l6, rfl, q6⟩ := consn l5 0 q5
  obtain rfl : l6 = [] := List.eq_nil_of_length_eq_zero q6
  exact ⟨a0, a1, a2, a3, a4, a5, rfl⟩
theorem stx_of (s : ByteArray) : Value.string s = stx s.data.toList := by cases s; simp [stx]

def SizedSa (sa : SaV) : Prop := sa.key.length ≤ 140737488351232 ∧ sa.salt.length ≤ 140737488351232 ∧ sa.mac.length ≤ 140737488351232

set_option maxRecDepth 100000 in
theorem open_sa {r : Reach} {b0 : Nat} {v : Value} {d : DataW H} {ps : List MemPlace} (hval : Value.okWide Tryd.prog W r b0 23 v) (h : DataW.Trod enc Tryd.prog W 0 (fun _ => true) true 23 v d ps)
    (hs : ∀ n ∈ d.weights Tryd.prog 23, n ≤ reachBytes) : ∃ sa : SaV, v = .agg (saC sa) ∧ SizedSa sa := by
  obtain ⟨cs, rfl, hsz⟩ := okWide_struct Tryd.underlying23 hval
  obtain ⟨fuel, hf⟩ := h
  have hc1 : (Value.agg cs).cells = cs := rfl
  rw [hc1] at hf
  obtain ⟨xs, n, rfl, hx, hl, hxl, hfld⟩ := DataW.trod_struct Tryd.underlying23 hf
  have hc : Tryd.prog.cellsOf 23 = 6 := by kernel_rfl
  rw [hc] at hl
  have hx6 : xs.length = 6 := hxl.trans (by kernel_rfl)
  obtain ⟨c0, c1, c2, c3, c4, c5, hcs⟩ := list6 cs.toList hl
  obtain ⟨x0, x1, x2, x3, x4, x5, rfl⟩ := list6 xs hx6
  rw [hcs] at hfld
  have k3 : Tryd.prog.cellsOf 3 = 1 := by kernel_rfl
  have k4 : Tryd.prog.cellsOf 4 = 1 := by kernel_rfl
  have k9 : Tryd.prog.cellsOf 9 = 1 := by kernel_rfl
  have g0 := hfld 0 _ rfl
  have g1 := hfld 1 _ rfl
  have g2 := hfld 2 _ rfl
  have g3 := hfld 3 _ rfl
  have g4 := hfld 4 _ rfl
  have g5 := hfld 5 _ rfl
  clear hfld
  simp only [k3, k4, k9, List.drop_zero, List.drop_succ_cons, List.take_succ_cons, List.take_zero, List.getElem?_cons_zero, List.getElem?_cons_succ] at g0 g1 g2 g3 g4 g5
  obtain ⟨n0, e0, f0, -⟩ := DataW.trod_int Tryd.underlying3 g0
  obtain ⟨n1, e1, f1, -⟩ := DataW.trod_string Tryd.underlying9 g1
  obtain ⟨n2, e2, f2, -⟩ := DataW.trod_string Tryd.underlying9 g2
  obtain ⟨n3, e3, f3, -⟩ := DataW.trod_string Tryd.underlying9 g3
  obtain ⟨n4, e4, f4⟩ := DataW.trod_bool Tryd.underlying4 g4
  obtain ⟨n5, e5, f5, -⟩ := DataW.trod_int Tryd.underlying3 g5
  obtain rfl : x1 = (.lit (.string n1.data.toList), []) := f1
  obtain rfl : x2 = (.lit (.string n2.data.toList), []) := f2
  obtain rfl : x3 = (.lit (.string n3.data.toList), []) := f3
  have hd : d = .agg ([x0, (DataW.lit (.string n1.data.toList), []), (DataW.lit (.string n2.data.toList), []), (DataW.lit (.string n3.data.toList), []), x4, x5].map (·.1)) := (Prod.mk.inj hx).1
  subst hd
  have hsz := fun (j : Nat) (t : TypeId) (b : List UInt8) ht hd => hs b.length (by
    show _ ∈ DataW.weights _ _ _
    unfold DataW.weights
    rw [Tryd.underlying23]
    exact DataW.weights_mem_each (j := j) (t := t) (d := .lit (.string b)) ht hd b.length (by simp [DataW.weights]))
  have s1 := hsz 1 9 n1.data.toList rfl rfl
  have s2 := hsz 2 9 n2.data.toList rfl rfl
  have s3 := hsz 3 9 n3.data.toList rfl rfl
  refine ⟨⟨n0, n1.data.toList, n2.data.toList, n3.data.toList, n4, n5⟩, ?_, s1, s2, s3⟩
  have hA : cs = #[c0, c1, c2, c3, c4, c5] := by
    apply Array.toList_inj.1
    rw [hcs]
  rw [hA, (List.cons.inj e0).1, (List.cons.inj e1).1, (List.cons.inj e2).1, (List.cons.inj e3).1, (List.cons.inj e4).1, (List.cons.inj e5).1]
  rw [stx_of n1, stx_of n2, stx_of n3]
  rfl
end
end Go.Proofs.YtekaoknpjpbjgaaDoor
