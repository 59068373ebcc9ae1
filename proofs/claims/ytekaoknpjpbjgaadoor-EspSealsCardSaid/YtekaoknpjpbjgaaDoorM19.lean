/- Words, walks and plain laws that the claim leans on, part 19. -/
import Derived.Test.YtekaoknpjpbjgaaDoorM16
import Derived.Laws.IdiomStrings
import Derived.Lib.SlBytesConst

/-! The document's examples. -/
namespace Go.Proofs.YtekaoknpjpbjgaaDoor
set_option linter.unusedVariables false
set_option linter.unusedSimpArgs false
open Go.RowKit

/-- Bytes as a text. -/
theorem BAt.text {w : World} {p : Nat → Prop} {v : Value} {l : List UInt8} (h : BAt w p v l) : (convert 25 9 v).run Tryd.prog w = .ok (.string ⟨l.toArray⟩) w := by
  obtain ⟨h1, a, c, rfl, h3, h4, h5⟩ := h
  rcases h5 with h5 | ⟨b, off, hb, rfl, hc⟩
  · have : l = [] := by simpa [bcells] using h5
    subst this
    cases a with
    | none => exact run_convert_bytes_nil w 25 5 (by kernel_rfl) (by kernel_rfl) _ _ _ (by kernel_rfl)
    | some a => exact run_convert_bytes_back w _ _ 5 a c [] (by kernel_rfl) (by kernel_rfl) (by kernel_rfl) (fun j hj => by simp at hj)
  · exact run_convert_bytes_back w _ _ 5 ⟨b, off, none⟩ c l (by kernel_rfl) (by kernel_rfl) (by kernel_rfl) (fun j hj => by rw [addr_add]; exact hc j _ (bcells_get hj))

/-- A row of bytes, just laid, marked or not. -/
theorem BAt.litF (w : World) (cs : Array Value) (l : List UInt8) (n : Nat) (T : TypeId) (fr : Nat × Nat) (h : cs = (bcells l).toArray) (hn : l.length = n) (hm : n ≤ 1099511627776) : BAt (w.alloc (.cells cs T fr)) (fun b => w.heap.size ≤ b) (.slice (some ⟨w.heap.size, 0, none⟩) n n) l := by
  subst h hn
  refine ⟨by simp [bcells], some ⟨w.heap.size, 0, none⟩, l.length, rfl, Nat.le_refl _, by simp only [maxLen]; omega, .inr ⟨w.heap.size, 0, Nat.le_refl _, rfl, fun j u hu => ?_⟩⟩
  rw [cell_of_row _ _ _ _ _ _ (heap_alloc_new w _), Nat.zero_add, List.getElem?_toArray]
  exact hu

def exRow (k : Nat) : List UInt8 := List.replicate k 11 ++ List.replicate (20 - k) 0
theorem exRow_step (k : Nat) (h : k < 20) : (exRow k).set k 11 = exRow (k + 1) := by
  unfold exRow
  rw [List.set_append_right _ _ (by simp), List.length_replicate, Nat.sub_self, show 20 - k = (20 - (k + 1)) + 1 by omega, List.replicate_succ, List.set_cons_zero, List.replicate_succ', List.append_assoc]
  rfl
theorem exRow_len (k : Nat) (h : k ≤ 20) : (exRow k).length = 20 := by simp [exRow]; omega

end Go.Proofs.YtekaoknpjpbjgaaDoor
