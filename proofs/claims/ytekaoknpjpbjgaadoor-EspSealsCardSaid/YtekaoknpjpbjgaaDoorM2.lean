/- Words, walks and plain laws that the claim leans on, part 2. -/
import Derived.Test.YtekaoknpjpbjgaaDoorRows
import Derived.WalkKit
import Derived.WalkSpells
import Derived.WalkLawsBesides
import Derived.Deep.QuietTactic
import Derived.BigQuiet
import Derived.Deep.Draws
import Derived.Lib.Hide

/-! Words for worlds: a block that is a row of cells; what a call leaves as it was. -/
namespace Go.Proofs.YtekaoknpjpbjgaaDoor
set_option linter.unusedVariables false
set_option linter.unusedSimpArgs false
open Go.RowKit

/-- Block b is a row of these cells. -/
def RowAt (w : World) (b : Nat) (cs : Array Value) (T : TypeId) : Prop := w.heap[b]? = some (.cells cs T (0, 0))

theorem RowAt.lt {w : World} {b : Nat} {cs : Array Value} {T : TypeId} (h : RowAt w b cs T) : b < w.heap.size :=
  (Array.getElem?_eq_some_iff.1 h).1
theorem RowAt.cell {w : World} {b : Nat} {cs : Array Value} {T : TypeId} (h : RowAt w b cs T) (j : Nat) : w.cell? ⟨b, j, none⟩ = cs[j]? :=
  cell_of_row w b j cs T (0, 0) h
theorem RowAt.frozen {w : World} {b : Nat} {cs : Array Value} {T : TypeId} (h : RowAt w b cs T) (j : Nat) : w.frozen? ⟨b, j, none⟩ = false :=
  frozen_of_row w b j cs T h
theorem RowAt.set {w : World} {b : Nat} {cs : Array Value} {T : TypeId} (h : RowAt w b cs T) (j : Nat) (v : Value) :
    RowAt (w.setCell ⟨b, j, none⟩ v) b (cs.setIfInBounds j v) T := heap_setCell_same w b j cs T v h
theorem RowAt.setOther {w : World} {b : Nat} {cs : Array Value} {T : TypeId} (h : RowAt w b cs T) (a : Addr) (v : Value) (hne : b ≠ a.block) :
    RowAt (w.setCell a v) b cs T := (heap_setCell_other w a b v hne).trans h
theorem RowAt.drew {w : World} {b : Nat} {cs : Array Value} {T : TypeId} (h : RowAt w b cs T) : RowAt w.drew b cs T := h
theorem RowAt.drewN {w : World} {b : Nat} {cs : Array Value} {T : TypeId} (h : RowAt w b cs T) (n : Nat) : RowAt (w.drewN n) b cs T := h
theorem RowAt.alloc {w : World} {b : Nat} {cs : Array Value} {T : TypeId} (h : RowAt w b cs T) (o : Obj) : RowAt (w.alloc o) b cs T :=
  (Below.heap_alloc w o b h.lt).trans h
theorem RowAt.new (w : World) (cs : Array Value) (T : TypeId) : RowAt (w.alloc (.cells cs T)) w.heap.size cs T := heap_alloc_new w _
theorem RowAt.eq {w : World} {b : Nat} {cs cs' : Array Value} {T : TypeId} (h : RowAt w b cs T) (e : cs = cs') : RowAt w b cs' T := e ▸ h

/-- Of the blocks of w none but those of S has turned; the streams are as they were. -/
structure Keeps (S : Nat → Prop) (w w' : World) : Prop where
  os : w'.os = w.os
  tape : w'.tape = w.tape
  output : w'.output = w.output
  size : w.heap.size ≤ w'.heap.size
  block : ∀ k, k < w.heap.size → ¬ S k → w'.heap[k]? = w.heap[k]?

theorem Keeps.refl (S : Nat → Prop) (w : World) : Keeps S w w := ⟨rfl, rfl, rfl, Nat.le_refl _, fun _ _ _ => rfl⟩
theorem Keeps.trans {S S' : Nat → Prop} {a b c : World} (h : Keeps S a b) (k : Keeps S' b c) (hS : ∀ i, i < a.heap.size → S' i → S i) : Keeps S a c :=
  ⟨k.os.trans h.os, k.tape.trans h.tape, k.output.trans h.output, Nat.le_trans h.size k.size,
    fun i hi hn => (k.block i (Nat.lt_of_lt_of_le hi h.size) (fun x => hn (hS i hi x))).trans (h.block i hi hn)⟩
theorem Keeps.mono {S S' : Nat → Prop} {a b : World} (h : Keeps S a b) (hS : ∀ i, i < a.heap.size → S i → S' i) : Keeps S' a b :=
  ⟨h.os, h.tape, h.output, h.size, fun i hi hn => h.block i hi (fun x => hn (hS i hi x))⟩
theorem Keeps.drew {S : Nat → Prop} {a w : World} (h : Keeps S a w) : Keeps S a w.drew := ⟨h.os, h.tape, h.output, h.size, h.block⟩
theorem Keeps.drewN {S : Nat → Prop} {a w : World} (h : Keeps S a w) (n : Nat) : Keeps S a (w.drewN n) := ⟨h.os, h.tape, h.output, h.size, h.block⟩
theorem Keeps.alloc {S : Nat → Prop} {a w : World} (h : Keeps S a w) (o : Obj) : Keeps S a (w.alloc o) :=
  ⟨h.os, h.tape, h.output, Nat.le_trans h.size (by show _ ≤ (w.heap.push o).size; rw [Array.size_push]; omega), fun k hk hn => (Below.heap_alloc _ _ _ (by have := h.size; omega)).trans (h.block k hk hn)⟩
theorem Keeps.setCell {S : Nat → Prop} {a w : World} (h : Keeps S a w) (p : Addr) (u : Value) (hp : S p.block ∨ a.heap.size ≤ p.block) : Keeps S a (w.setCell p u) :=
  ⟨h.os, h.tape, h.output, Nat.le_trans h.size (by simp [World.setCell]), fun k hk hn => (Below.heap_setCell _ _ _ _ (by
    rintro rfl
    rcases hp with hp | hp
    · exact hn hp
    · omega)).trans (h.block k hk hn)⟩
theorem Keeps.below {S : Nat → Prop} {w w' : World} (h : Keeps S w w') (B : Nat) (hB : B ≤ w.heap.size) (hS : ∀ i, i < B → ¬ S i) : Below B w w' :=
  ⟨h.os, h.tape, h.output, h.size, fun k hk => h.block k (by omega) (hS k hk)⟩
theorem Keeps.of_below {w w' : World} (h : Below w.heap.size w w') (S : Nat → Prop) : Keeps S w w' :=
  ⟨h.os, h.tape, h.output, h.size, fun k hk _ => h.block k hk⟩
theorem RowAt.keeps {S : Nat → Prop} {w w' : World} {b : Nat} {cs : Array Value} {T : TypeId} (h : RowAt w b cs T) (hk : Keeps S w w') (hS : ¬ S b) : RowAt w' b cs T :=
  (hk.block b h.lt hS).trans h

theorem Keeps.cell {S : Nat → Prop} {w w' : World} (h : Keeps S w w') {a : Addr} {v : Value} (hc : w.cell? a = some v) (hS : ¬ S a.block) : w'.cell? a = some v :=
  (World.cell?_of_block (w := w) (h.block a.block (World.block_lt_of_cell? w a hc) hS)).trans hc
theorem Keeps.own {a b c : World} {q : Nat} (h : Keeps (fun _ => False) a b) (k : Keeps (· = q) b c) (hq : a.heap.size ≤ q) : Keeps (fun _ => False) a c :=
  h.trans k fun i hi e => by omega
/-- What was written lies in new blocks. -/
theorem Keeps.from {S : Nat → Prop} {a b c : World} (h : Keeps (fun _ => False) a b) (k : Keeps S b c) (hq : ∀ i, S i → a.heap.size ≤ i) : Keeps (fun _ => False) a c :=
  h.trans k fun i hi e => by have := hq i e; omega
theorem RowAt.two {w : World} {b : Nat} {u v : Value} {T : TypeId} (h : RowAt w b #[u, v] T) : w.cell? ⟨b, 0, none⟩ = some u ∧ w.cell? ⟨b, 1, none⟩ = some v := ⟨h.cell 0, h.cell 1⟩
theorem RowAt.one {w : World} {b : Nat} {u : Value} {T : TypeId} (h : RowAt w b #[u] T) : w.cell? ⟨b, 0, none⟩ = some u := h.cell 0
theorem ret_int {k : IntKind} {a b : Int} (h : a = b) : Ending.returned (.int k a) = .returned (.int k b) := by rw [h]
theorem ret_bool {a b : Bool} (h : a = b) : Ending.returned (.bool a) = .returned (.bool b) := by rw [h]
theorem addr_add (b off j : Nat) : (⟨b, off, none⟩ : Addr).add j = ⟨b, off + j, none⟩ := by unfold Addr.add; split <;> simp_all

end Go.Proofs.YtekaoknpjpbjgaaDoor
