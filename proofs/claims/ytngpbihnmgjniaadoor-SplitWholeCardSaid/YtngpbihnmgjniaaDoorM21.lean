/- Words, walks and plain laws that the claim leans on, part 21. -/
import Derived.Test.YtngpbihnmgjniaaDoorM14
import Derived.Test.YtngpbihnmgjniaaDoorM20
import Derived.SizedLaws

/-! From a row's reading of a packet to the walks' words. -/
namespace Go.Proofs.YtngpbihnmgjniaaDoor
set_option linter.unusedVariables false
set_option linter.unusedSimpArgs false
open Go.ChangeShapes Go.WideShapes Go.ChangeAt Go.RowKit Go.Deep

section
variable {H : Type} {enc : TypeId × Value → H} {W : World}

theorem cons_len {α : Type} (l : List α) (n : Nat) (h : l.length = n + 1) : ∃ a r, l = a :: r ∧ r.length = n := by
  cases l with
  | nil => simp at h
  | cons a r => exact ⟨a, r, rfl, by simpa using h⟩
theorem list11 {α : Type} (l : List α) (h : l.length = 11) : ∃ a0 a1 a2 a3 a4 a5 a6 a7 a8 a9 a10, l = [a0, a1, a2, a3, a4, a5, a6, a7, a8, a9, a10] := by
  obtain ⟨a0, l1, rfl, q1⟩ := cons_len l 10 h
  obtain ⟨a1, l2, rfl, q2⟩ := cons_len l1 9 q1
  obtain ⟨a2, l3, rfl, q3⟩ := cons_len l2 8 q2
  obtain ⟨a3, l4, rfl, q4⟩ := cons_len l3 7 q3
  obtain ⟨a4, l5, rfl, q5⟩ := cons_len l4 6 q4
  obtain ⟨a5, l6, rfl, q6⟩ := cons_len l5 5 q5
  obtain ⟨a6, l7, rfl, q7⟩ := cons_len l6 4 q6
  obtain ⟨a7, l8, rfl, q8⟩ := cons_len l7 3 q7
  obtain ⟨a8, l9, rfl, q9⟩ := cons_len l8 2 q8
  obtain ⟨a9, l10, rfl, q10⟩ := cons_len l9 1 q9
  obtain ⟨a10, l11, rfl, q11⟩ := cons_len l10 0 q10
  obtain rfl : l11 = [] := List.eq_nil_of_length_eq_zero q11
  exact ⟨a0, a1, a2, a3, a4, a5, a6, a7, a8, a9, a10, rfl⟩
theorem txt_of (s : ByteArray) : Value.string s = txt s.data.toList := by cases s; simp [txt]

def Sized4 (p : P4) : Prop := p.src.length ≤ 140737488351232 ∧ p.dst.length ≤ 140737488351232 ∧ p.opt.length ≤ 140737488351232

set_option maxRecDepth 100000 in
theorem open_ip4 {r : Reach} {b0 : Nat} {v : Value} {d : DataW H} {ps : List MemPlace} (hval : Value.okWide Tryd.prog W r b0 24 v) (h : DataW.Trod enc Tryd.prog W 0 (fun _ => true) true 24 v d ps)
    (hs : ∀ n ∈ d.weights Tryd.prog 24, n ≤ reachBytes) : ∃ (p : P4) (dv : Value), v = .agg (p4cells p dv) ∧ BAt W (· < W.heap.size) dv p.data ∧ Sized4 p := by
  obtain ⟨cs, rfl, hsz⟩ := okWide_struct Tryd.underlying24 hval
  obtain ⟨fuel, hf⟩ := h
  have hc1 : (Value.agg cs).cells = cs := rfl
  rw [hc1] at hf
  obtain ⟨xs, n, rfl, hx, hl, hxl, hfld⟩ := DataW.trod_struct Tryd.underlying24 hf
  have hc : Tryd.prog.cellsOf 24 = 11 := by kernel_rfl
  rw [hc] at hl
  have hx11 : xs.length = 11 := hxl.trans (by kernel_rfl)
  obtain ⟨c0, c1, c2, c3, c4, c5, c6, c7, c8, c9, c10, hcs⟩ := list11 cs.toList hl
  obtain ⟨x0, x1, x2, x3, x4, x5, x6, x7, x8, x9, x10, rfl⟩ := list11 xs hx11
  rw [hcs] at hfld
  have k3 : Tryd.prog.cellsOf 3 = 1 := by kernel_rfl
  have k4 : Tryd.prog.cellsOf 4 = 1 := by kernel_rfl
  have k9 : Tryd.prog.cellsOf 9 = 1 := by kernel_rfl
  have k22 : Tryd.prog.cellsOf 22 = 1 := by kernel_rfl
  have g0 := hfld 0 _ rfl
  have g1 := hfld 1 _ rfl
  have g2 := hfld 2 _ rfl
  have g3 := hfld 3 _ rfl
  have g4 := hfld 4 _ rfl
  have g5 := hfld 5 _ rfl
  have g6 := hfld 6 _ rfl
  have g7 := hfld 7 _ rfl
  have g8 := hfld 8 _ rfl
  have g9 := hfld 9 _ rfl
  have g10 := hfld 10 _ rfl
  clear hfld
  simp only [k3, k4, k9, k22, List.drop_zero, List.drop_succ_cons, List.take_succ_cons, List.take_zero, List.getElem?_cons_zero, List.getElem?_cons_succ] at g0 g1 g2 g3 g4 g5 g6 g7 g8 g9 g10
  obtain ⟨n0, e0, f0, -⟩ := DataW.trod_int Tryd.underlying3 g0
  obtain ⟨n1, e1, f1, -⟩ := DataW.trod_int Tryd.underlying3 g1
  obtain ⟨n2, e2, f2, -⟩ := DataW.trod_int Tryd.underlying3 g2
  obtain ⟨n3, e3, f3, -⟩ := DataW.trod_int Tryd.underlying3 g3
  obtain ⟨n4, e4, f4⟩ := DataW.trod_bool Tryd.underlying4 g4
  obtain ⟨n5, e5, f5⟩ := DataW.trod_bool Tryd.underlying4 g5
  obtain ⟨n6, e6, f6, -⟩ := DataW.trod_int Tryd.underlying3 g6
  obtain ⟨n7, e7, f7, -⟩ := DataW.trod_string Tryd.underlying9 g7
  obtain ⟨n8, e8, f8, -⟩ := DataW.trod_string Tryd.underlying9 g8
  obtain ⟨n9, e9, f9, -⟩ := DataW.trod_string Tryd.underlying9 g9
  obtain ⟨l10, hb⟩ := open_bytes' Tryd.underlying22 k22 Tryd.underlying5 g10
  obtain rfl : x7 = (.lit (.string n7.data.toList), []) := f7
  obtain rfl : x8 = (.lit (.string n8.data.toList), []) := f8
  obtain rfl : x9 = (.lit (.string n9.data.toList), []) := f9
  have hd : d = .agg ([x0, x1, x2, x3, x4, x5, x6, (DataW.lit (.string n7.data.toList), []), (DataW.lit (.string n8.data.toList), []), (DataW.lit (.string n9.data.toList), []), x10].map (·.1)) := (Prod.mk.inj hx).1
  subst hd
  have hsz := fun (j : Nat) (t : TypeId) (b : List UInt8) ht hd => hs b.length (by
    show _ ∈ DataW.weights _ _ _
    unfold DataW.weights
    rw [Tryd.underlying24]
    exact DataW.weights_mem_each (j := j) (t := t) (d := .lit (.string b)) ht hd b.length (by simp [DataW.weights]))
  have s7 := hsz 7 9 n7.data.toList rfl rfl
  have s8 := hsz 8 9 n8.data.toList rfl rfl
  have s9 := hsz 9 9 n9.data.toList rfl rfl
  refine ⟨⟨n0, n1, n2, n3, n4, n5, n6, n7.data.toList, n8.data.toList, n9.data.toList, l10⟩, c10, ?_, hb, s7, s8, s9⟩
  · have hA : cs = #[c0, c1, c2, c3, c4, c5, c6, c7, c8, c9, c10] := by
      apply Array.toList_inj.1
      rw [hcs]
    rw [hA, (List.cons.inj e0).1, (List.cons.inj e1).1, (List.cons.inj e2).1, (List.cons.inj e3).1, (List.cons.inj e4).1, (List.cons.inj e5).1, (List.cons.inj e6).1, (List.cons.inj e7).1, (List.cons.inj e8).1, (List.cons.inj e9).1]
    rw [txt_of n7, txt_of n8, txt_of n9]
    rfl
end
end Go.Proofs.YtngpbihnmgjniaaDoor
