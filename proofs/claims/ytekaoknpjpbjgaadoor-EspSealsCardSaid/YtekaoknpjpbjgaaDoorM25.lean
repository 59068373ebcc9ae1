/- Words, walks and plain laws that the claim leans on, part 25. -/
import Derived.Test.YtekaoknpjpbjgaaDoorM8
import Derived.Test.YtekaoknpjpbjgaaDoorM24
import Derived.Lib.ConvBytes

/-! Rows of rows of bytes, just laid, of any number; []byte of a text; texts put together. -/
namespace Go.Proofs.YtekaoknpjpbjgaaDoor
set_option linter.unusedVariables false
set_option linter.unusedSimpArgs false
open Go.RowKit

theorem size_alloc (w : World) (x : Obj) : (w.alloc x).heap.size = w.heap.size + 1 := by show (w.heap.push x).size = _; simp
def RowsOf (w : World) (q : Nat → Prop) : List Value → List (List UInt8) → Prop
  | [], [] => True
  | x :: vs, l :: ls => BAt w q x l ∧ RowsOf w q vs ls
  | _, _ => False
theorem RowsOf.len {w : World} {q : Nat → Prop} : ∀ (vs : List Value) (ls : List (List UInt8)), RowsOf w q vs ls → vs.length = ls.length
  | [], [], _ => rfl
  | _ :: vs, _ :: ls, h => by simp [RowsOf.len vs ls h.2]
  | [], _ :: _, h => h.elim
  | _ :: _, [], h => h.elim
theorem RowsOf.at {w : World} {q : Nat → Prop} : ∀ (vs : List Value) (ls : List (List UInt8)), RowsOf w q vs ls → ∀ (i : Nat) (x : Value) (l : List UInt8), vs[i]? = some x → ls[i]? = some l → BAt w q x l
  | [], [], _, i, x, l, h, _ => by simp at h
  | y :: vs, m :: ls, h, 0, x, l, h1, h2 => by simp at h1 h2; subst h1 h2; exact h.1
  | y :: vs, m :: ls, h, i + 1, x, l, h1, h2 => RowsOf.at vs ls h.2 i x l (by simpa using h1) (by simpa using h2)
  | [], _ :: _, h, _, _, _, _, _ => h.elim
  | _ :: _, [], h, _, _, _, _, _ => h.elim
theorem BBAt.lits {w : World} {q : Nat → Prop} {T : TypeId} (cs : Array Value) (vs : List Value) (ls : List (List UInt8)) (n : Nat) (hc : cs = vs.toArray) (hn : vs.length = n) (hm : n ≤ 1000) (h : RowsOf w q vs ls) :
    BBAt (w.alloc (.cells cs T)) (fun b => b = w.heap.size) q (.slice (some ⟨w.heap.size, 0, none⟩) n n) ls := by
  subst hc hn
  have hl := RowsOf.len vs ls h
  have hk := (Keeps.refl (fun _ => False) w).alloc (.cells vs.toArray T)
  have hs := SAt.of_row (p := fun b => b = w.heap.size) (RowAt.new w vs.toArray T) 0 vs.length vs.length vs rfl (Nat.le_refl _) (by simp only [maxLen]; omega) rfl (fun j hj => by rw [Nat.zero_add]; exact List.getElem?_toArray)
  exact ⟨vs, hl, by rw [hl] at hs ⊢; exact hs, fun i x l hx hl => (RowsOf.at vs ls h i x l hx hl).keeps hk (fun _ _ h => h)⟩

theorem ba_append (a b : List UInt8) : (ByteArray.mk a.toArray) ++ (ByteArray.mk b.toArray) = ⟨(a ++ b).toArray⟩ := by
  apply ByteArray.ext
  rw [ByteArray.data_append]
  simp

theorem Keeps.bytesWorld (w : World) (e : TypeId) (s : ByteArray) : Keeps (fun _ => False) w (Lib.bytesWorld w e s) :=
  ⟨rfl, rfl, rfl, by rw [Lib.bytesWorld_size]; omega, fun k hk _ => Lib.bytesWorld_at_old w e s k hk⟩
theorem BAt.ofText (w : World) (l : List UInt8) (hl : l.length ≤ 1000000) : BAt (Lib.bytesWorld w 5 ⟨l.toArray⟩) (fun b => w.heap.size ≤ b) (.slice (some ⟨w.heap.size, 0, none⟩) l.length (grownCap w l.length 0 5)) l := by
  have hsz : (ByteArray.mk l.toArray).size = l.length := by simp [ByteArray.size]
  refine ⟨by simp [bcells_length], _, _, rfl, grownCap_ge _ _ _ _, grownCap_le_maxLen _ _ _ _ (by simp only [maxLen]; omega), .inr ⟨w.heap.size, 0, Nat.le_refl _, rfl, fun j u hu => ?_⟩⟩
  have hj : j < l.length := by
    have := (List.getElem?_eq_some_iff.1 hu).1
    rwa [bcells_length] at this
  rw [bcells_get hj] at hu
  rw [Nat.zero_add, Lib.bytesWorld_cell w _ _ j (by rw [hsz]; exact hj), ← hu]
  simp [hj]
theorem conv_text (w : World) (l : List UInt8) : (convert 9 25 (.string ⟨l.toArray⟩)).run Tryd.prog w = .ok (.slice (some ⟨w.heap.size, 0, none⟩) l.length (grownCap w l.length 0 5)) (Lib.bytesWorld w 5 ⟨l.toArray⟩) := by
  have hsz : (ByteArray.mk l.toArray).size = l.length := by simp [ByteArray.size]
  have := Lib.run_convert_string_bytes (P := Tryd.prog) w 9 25 5 ⟨l.toArray⟩ Tryd.underlying9 Tryd.underlying25 Tryd.underlying5
  rwa [hsz] at this
end Go.Proofs.YtekaoknpjpbjgaaDoor
