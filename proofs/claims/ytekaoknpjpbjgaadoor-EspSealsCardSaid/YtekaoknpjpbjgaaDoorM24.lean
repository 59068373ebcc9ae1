/- Words, walks and plain laws that the claim leans on, part 24. -/
import Derived.Test.YtekaoknpjpbjgaaDoorM5
import Derived.Laws.IdiomStrings
import Derived.Lib.SlBytesConst

/-! Bytes as texts; a named result in memory of its own. -/
namespace Go.Proofs.YtekaoknpjpbjgaaDoor
set_option linter.unusedVariables false
set_option linter.unusedSimpArgs false
open Go.RowKit

/-- Bytes as a text. -/
theorem BAt.text {w : World} {p : Nat → Prop} {v : Value} {l : List UInt8} (h : BAt w p v l) : (convert 25 9 v).run Tryd.prog w = .ok (.string ⟨l.toArray⟩) w := by
  obtain ⟨h1, a, c, rfl, h3, h4, h5⟩ := h
  rcases h5 with h5 | ⟨b, off, hb, rfl, hc⟩
  · have : l = [] := by simpa [bcells] using h5
    subst this
    cases a with
    | none => exact run_convert_bytes_nil w 25 5 (by kernel_rfl) (by kernel_rfl) _ _ _ (by kernel_rfl)
    | some a => exact run_convert_bytes_back w _ _ 5 a c [] (by kernel_rfl) (by kernel_rfl) (by kernel_rfl) (fun j hj => by simp at hj)
  · exact run_convert_bytes_back w _ _ 5 ⟨b, off, none⟩ c l (by kernel_rfl) (by kernel_rfl) (by kernel_rfl) (fun j hj => by rw [addr_add]; exact hc j _ (bcells_get hj))

/-- A row of bytes, just laid, marked or not. -/
theorem BAt.litF (w : World) (cs : Array Value) (l : List UInt8) (n : Nat) (T : TypeId) (fr : Nat × Nat) (h : cs = (bcells l).toArray) (hn : l.length = n) (hm : n ≤ 1099511627776) : BAt (w.alloc (.cells cs T fr)) (fun b => w.heap.size ≤ b) (.slice (some ⟨w.heap.size, 0, none⟩) n n) l := by
  subst h hn
  refine ⟨by simp [bcells], some ⟨w.heap.size, 0, none⟩, l.length, rfl, Nat.le_refl _, by simp only [maxLen]; omega, .inr ⟨w.heap.size, 0, Nat.le_refl _, rfl, fun j u hu => ?_⟩⟩
  rw [cell_of_row _ _ _ _ _ _ (heap_alloc_new w _), Nat.zero_add, List.getElem?_toArray]
  exact hu

theorem results_cell_tmp {P : Program} {fn : Func} {p u : Tmp} {ty : TypeId} (h : fn.results = #[.cell p ty, .tmp u]) (tmps : Array Value) (w : World) (g : Nat) (t : TypeId) (cs : Array Value) (fr : Nat × Nat) (d : TypeDesc)
    (hp : tmps.getD p undef = .pointer (some ⟨g, 0, none⟩)) (hg : w.heap[g]? = some (.cells cs t fr))
    (hu : P.underlying ty = some d) (hd : (match d with | .struct _ | .array _ _ => true | _ => false) = true) (hi : (P.info? ty).map (·.size) = some cs.size) :
    (results fn tmps).run P w = .ok (.tuple #[.agg cs, tmps.getD u undef]) w := by
  have hp' : tmps[p]?.getD undef = .pointer (some ⟨g, 0, none⟩) := by simpa using hp
  simp [results, h, hp', asAddr, run_loadVar_row w g t ty cs fr d hg hu hd hi]
theorem ret_cell_tmp {P : Program} {fn : Func} {R : Ending → World → Prop} {a : Act} {w : World} (p u : Tmp) (ty : TypeId) (h : fn.results = #[.cell p ty, .tmp u]) (g : Nat) (t : TypeId) (cs : Array Value) (d : TypeDesc)
    (hp : a.tmps.getD p undef = .pointer (some ⟨g, 0, none⟩)) (hg : RowAt w g cs t) (hu : P.underlying ty = some d) (hd : (match d with | .struct _ | .array _ _ => true | _ => false) = true) (hi : (P.info? ty).map (·.size) = some cs.size) (hdf : a.defers = [])
    (hR : R (.returned (.tuple #[.agg cs, a.tmps.getD u undef])) w) : bodyPost P fn R .ret a w := bodyPost_ret (results_cell_tmp h a.tmps w g t cs (0, 0) d hp hg hu hd hi) hdf hR
end Go.Proofs.YtekaoknpjpbjgaaDoor
