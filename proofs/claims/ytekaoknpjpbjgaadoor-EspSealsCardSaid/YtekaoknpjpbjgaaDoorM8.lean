/- Words, walks and plain laws that the claim leans on, part 8. -/
import Derived.Test.YtekaoknpjpbjgaaDoorM5
import Derived.Test.YtekaoknpjpbjgaaDoorM7

/-! Words that stay: bytes, rows of bytes. -/
namespace Go.Proofs.YtekaoknpjpbjgaaDoor
set_option linter.unusedVariables false
set_option linter.unusedSimpArgs false
open Go.RowKit

def BRd (w : World) (v : Value) (l : List UInt8) : Prop := BAt w (· < w.heap.size) v l
def BBRd (w : World) (v : Value) (ls : List (List UInt8)) : Prop := BBAt w (· < w.heap.size) (· < w.heap.size) v ls
theorem BRd.keeps {w w' : World} {v : Value} {l : List UInt8} (h : BRd w v l) (hk : Keeps (fun _ => False) w w') : BRd w' v l :=
  (BAt.keeps h hk (fun _ _ h => h)).mono fun b hb => Nat.lt_of_lt_of_le hb hk.size
theorem BBRd.keeps {w w' : World} {v : Value} {ls : List (List UInt8)} (h : BBRd w v ls) (hk : Keeps (fun _ => False) w w') : BBRd w' v ls := by
  obtain ⟨vs, h1, h2, h3⟩ := BBAt.keeps h hk (fun _ _ h => h) (fun _ _ h => h)
  exact ⟨vs, h1, h2.mono fun b hb => Nat.lt_of_lt_of_le hb hk.size, fun i x l hx hl => (h3 i x l hx hl).mono fun b hb => Nat.lt_of_lt_of_le hb hk.size⟩
def rBytes (l : List UInt8) : Rel := ⟨fun v w => BRd w v l, fun _ _ _ h hk => h.keeps hk⟩
def rRows (ls : List (List UInt8)) : Rel := ⟨fun v w => BBRd w v ls, fun _ _ _ h hk => h.keeps hk⟩
end Go.Proofs.YtekaoknpjpbjgaaDoor

/-! Rows of rows of bytes, just laid. -/
namespace Go.Proofs.YtekaoknpjpbjgaaDoor
set_option linter.unusedVariables false
set_option linter.unusedSimpArgs false
open Go.RowKit

theorem SAt.of_row {w : World} {b T : Nat} {cs : Array Value} {p : Nat → Prop} (h : RowAt w b cs T) (off n N : Nat) (xs : List Value) (hl : xs.length = n) (hN : n ≤ N) (hm : N ≤ maxLen) (hp : p b) (hc : ∀ j, j < n → cs[off + j]? = xs[j]?) :
    SAt w p 1 (.slice (some ⟨b, off, none⟩) n N) n xs :=
  ⟨by omega, _, N, rfl, hN, hm, .inr ⟨b, off, hp, rfl, fun j u hu => by
    have hj : j < xs.length := (List.getElem?_eq_some_iff.1 hu).1
    rw [h.cell, hc j (by omega), hu]⟩⟩
theorem BAt.low {w : World} {p : Nat → Prop} {v : Value} {l : List UInt8} (h : BAt w p v l) : BAt w (· < w.heap.size) v l := (SAt.lt h).mono fun _ h => h.2
theorem BBAt.cons {w : World} {p q : Nat → Prop} {v x : Value} {vs : List Value} {l : List UInt8} {ls : List (List UInt8)} (hs : SAt w p 1 v (vs.length + 1) (x :: vs)) (hl : vs.length = ls.length) (hx : BAt w q x l)
    (hb : ∀ (i : Nat) (x : Value) (l : List UInt8), vs[i]? = some x → ls[i]? = some l → BAt w q x l) : BBAt w p q v (l :: ls) := by
  refine ⟨x :: vs, by simp [hl], by simpa using hs, fun i y m hy hm => ?_⟩
  cases i with
  | zero => simp at hy hm; subst hy hm; exact hx
  | succ i => exact hb i y m (by simpa using hy) (by simpa using hm)
theorem BBAt.pair {w : World} {q : Nat → Prop} {T : TypeId} {x y : Value} {l m : List UInt8} (hx : BAt w q x l) (hy : BAt w q y m) :
    BBAt (w.alloc (.cells #[x, y] T)) (fun b => b = w.heap.size) q (.slice (some ⟨w.heap.size, 0, none⟩) 2 2) [l, m] := by
  have hk := (Keeps.refl (fun _ => False) w).alloc (.cells #[x, y] T)
  refine BBAt.cons (vs := [y]) (x := x) (SAt.of_row (RowAt.new w _ _) 0 2 2 [x, y] rfl (Nat.le_refl _) (by simp [maxLen]) rfl (fun j hj => by rw [Nat.zero_add]; exact List.getElem?_toArray)) rfl (hx.keeps hk (fun _ _ h => h)) (fun i z n hz hn => ?_)
  cases i with
  | zero => simp at hz hn; subst hz hn; exact hy.keeps hk (fun _ _ h => h)
  | succ i => simp at hz
theorem BBAt.one {w : World} {q : Nat → Prop} {T : TypeId} {x : Value} {l : List UInt8} (hx : BAt w q x l) :
    BBAt (w.alloc (.cells #[x] T)) (fun b => b = w.heap.size) q (.slice (some ⟨w.heap.size, 0, none⟩) 1 1) [l] := by
  have hk := (Keeps.refl (fun _ => False) w).alloc (.cells #[x] T)
  exact BBAt.cons (vs := []) (x := x) (SAt.of_row (RowAt.new w _ _) 0 1 1 [x] rfl (Nat.le_refl _) (by simp [maxLen]) rfl (fun j hj => by rw [Nat.zero_add]; exact List.getElem?_toArray)) rfl (hx.keeps hk (fun _ _ h => h)) (fun i z n hz hn => by simp at hz)
theorem BBAt.low {w : World} {p q : Nat → Prop} {v : Value} {ls : List (List UInt8)} (h : BBAt w p q v ls) : BBAt w (· < w.heap.size) (· < w.heap.size) v ls := by
  obtain ⟨vs, h1, h2, h3⟩ := h
  exact ⟨vs, h1, (SAt.lt h2).mono fun _ h => h.2, fun i x l hx hl => (h3 i x l hx hl).low⟩
end Go.Proofs.YtekaoknpjpbjgaaDoor
