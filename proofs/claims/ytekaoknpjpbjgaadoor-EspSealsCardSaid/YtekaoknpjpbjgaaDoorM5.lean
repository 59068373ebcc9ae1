/- Words, walks and plain laws that the claim leans on, part 5. -/
import Derived.Test.YtekaoknpjpbjgaaDoorM3
import Derived.Laws.MakeOwn
import Derived.Laws.OwnMore

/-! More words for bytes of the call's own: made, cut, written. -/
namespace Go.Proofs.YtekaoknpjpbjgaaDoor
set_option linter.unusedVariables false
set_option linter.unusedSimpArgs false
open Go.RowKit

theorem BAt.take {w : World} {p : Nat → Prop} {a : Option Addr} {c : Nat} {l : List UInt8} (h : BAt w p (.slice a l.length c) l) (k : Nat) (hk : k ≤ l.length) : BAt w p (.slice a k c) (l.take k) := by
  obtain ⟨h1, a', c', e, h3, h4, h5⟩ := h
  simp only [Value.slice.injEq] at e
  obtain ⟨rfl, -, rfl⟩ := e
  have hlen : (l.take k).length = k := by rw [List.length_take]; omega
  refine ⟨by rw [bcells_length]; omega, a, c, by rw [hlen], by omega, h4, ?_⟩
  rcases h5 with h5 | ⟨b, off, hb, ha, hc⟩
  · left
    have : l = [] := by simpa [bcells] using h5
    simp [this, bcells]
  · right
    refine ⟨b, off, hb, ha, fun j u hu => hc j u ?_⟩
    have hj : j < (bcells (l.take k)).length := (List.getElem?_eq_some_iff.1 hu).1
    rw [bcells_length, hlen] at hj
    rw [← hu]
    simp [bcells, hj]
theorem BOwn.drop {w : World} {B g off c : Nat} {l : List UInt8} (h : BOwn w B (.slice (some ⟨g, off, none⟩) l.length c) l) (k : Nat) (hk : k ≤ l.length) :
    BOwn w B (.slice (some ⟨g, off + k, none⟩) (l.length - k) (c - k)) (l.drop k) := by
  obtain ⟨h1, h0, h2⟩ := h
  rcases h2 with ⟨e, -, -⟩ | ⟨g', off', c', cs, hb, e, h3, h4, hr, h5, h6⟩
  · simp at e
  · simp only [Value.slice.injEq, Option.some.injEq, Addr.mk.injEq, and_true] at e
    obtain ⟨⟨rfl, rfl⟩, -, rfl⟩ := e
    have hl : (l.drop k).length = l.length - k := List.length_drop
    refine ⟨by rw [bcells_length]; omega, bcells_one _, .inr ⟨g, off + k, c - k, cs, hb, by rw [hl], by omega, by omega, hr, by omega, fun j hj => ?_⟩⟩
    rw [Nat.add_assoc, h6 (k + j) (by omega)]
    simp [bcells, List.getElem?_drop]
/-- As the machine cuts: where nothing is left of the capacity the place stays. -/
theorem BOwn.cut {w : World} {B g off c : Nat} {l : List UInt8} (h : BOwn w B (.slice (some ⟨g, off, none⟩) l.length c) l) (k : Nat) (hk : k ≤ l.length) :
    ∃ o2, (if c = k then some (⟨g, off, none⟩ : Addr) else some ⟨g, off + k, none⟩) = some ⟨g, o2, none⟩ ∧ BOwn w B (.slice (some ⟨g, o2, none⟩) (l.drop k).length (c - k)) (l.drop k) := by
  have hd := h.drop k hk
  rw [← List.length_drop] at hd
  by_cases hc : c = k
  · rw [if_pos hc]
    refine ⟨off, rfl, ?_⟩
    obtain ⟨h1, h0, h2⟩ := hd
    rcases h2 with ⟨e, -, -⟩ | ⟨g', off', c', cs, hb, e, h3, h4, hr, h5, h6⟩
    · simp at e
    · simp only [Value.slice.injEq, Option.some.injEq, Addr.mk.injEq, and_true] at e
      obtain ⟨⟨rfl, rfl⟩, -, rfl⟩ := e
      have hz : (l.drop k).length = 0 := by omega
      exact ⟨h1, h0, .inr ⟨g, off, c - k, cs, hb, rfl, h3, h4, hr, by omega, fun j hj => by omega⟩⟩
  · rw [if_neg hc]
    exact ⟨off + k, rfl, hd⟩
/-- The row of a block of bytes is no row of another kind. -/
theorem BOwn.apart {w : World} {B b T : Nat} {v : Value} {l : List UInt8} {cs : Array Value} (h : BOwn w B v l) (hr : RowAt w b cs T) (hT : T ≠ 5) : v.ownBlock ≠ some b := by
  obtain ⟨h1, h0, h2⟩ := h
  rcases h2 with ⟨rfl, -, -⟩ | ⟨g, off, c, cs', hb, rfl, h3, h4, hr', h5, h6⟩
  · simp [Value.ownBlock]
  · intro e
    obtain rfl : g = b := by simpa [Value.ownBlock] using e
    have : some (Obj.cells cs' 5 (0, 0)) = some (Obj.cells cs T (0, 0)) := hr'.symm.trans hr
    simp only [Option.some.injEq, Obj.cells.injEq] at this
    exact hT this.2.1.symm
theorem BOwn.slice {w : World} {B : Nat} {v : Value} {l : List UInt8} (h : BOwn w B v l) : ∃ a c, v = .slice a l.length c ∧ l.length ≤ c ∧ c ≤ maxLen := h.bat.slice
theorem BOwn.place {w : World} {B : Nat} {v : Value} {l : List UInt8} (h : BOwn w B v l) (h0 : 0 < l.length) : ∃ g off c, v = .slice (some ⟨g, off, none⟩) l.length c ∧ l.length ≤ c ∧ c ≤ maxLen ∧ B ≤ g := by
  obtain ⟨h1, _, h2⟩ := h
  rcases h2 with ⟨rfl, h3, -⟩ | ⟨g, off, c, cs', hb, rfl, h3, h4, hr', h5, h6⟩
  · omega
  · exact ⟨g, off, c, rfl, h3, h4, hb⟩
/-- A cell of bytes of the call's own: it is there, it may be written; what is there then. -/
theorem BOwn.at {w : World} {B g off n c : Nat} {l : List UInt8} (h : BOwn w B (.slice (some ⟨g, off, none⟩) n c) l) (i : Nat) (hi : i < l.length) :
    w.cell? ⟨g, off + i, none⟩ = some (.int .u8 (l[i].toNat : Int)) ∧ w.frozen? ⟨g, off + i, none⟩ = false ∧
      ∀ x : UInt8, BOwn (w.setCell ⟨g, off + i, none⟩ (.int .u8 (x.toNat : Int))) B (.slice (some ⟨g, off, none⟩) n c) (l.set i x) := by
  obtain ⟨h1, h0, h2⟩ := h
  rcases h2 with ⟨e, -, -⟩ | ⟨g', off', c', cs, hb, e, h3, h4, hr, h5, h6⟩
  · simp at e
  · simp only [Value.slice.injEq, Option.some.injEq, Addr.mk.injEq, and_true] at e
    obtain ⟨⟨rfl, rfl⟩, rfl, rfl⟩ := e
    refine ⟨?_, hr.frozen _, fun x => ⟨by simp [bcells_length], bcells_one _, .inr ⟨g, off, c, cs.setIfInBounds (off + i) (.int .u8 (x.toNat : Int)), hb, by simp, by simpa using h3, h4, hr.set _ _, by simpa using h5, fun j hj => ?_⟩⟩⟩
    · rw [hr.cell, h6 i (by omega)]
      simp [bcells, bcell, hi]
    · have hj' : j < l.length := by simpa using hj
      by_cases hij : i = j
      · subst hij
        rw [Array.getElem?_setIfInBounds_self_of_lt (by omega)]
        simp [bcells, bcell, hj']
      · rw [Array.getElem?_setIfInBounds_ne (by omega), h6 j (by simpa using hj)]
        simp [bcells, hij]

/-- A row of one byte, just laid. -/
theorem BAt.one (w : World) (X : Int) (x : UInt8) (T : TypeId) (h : X = (x.toNat : Int)) : BAt (w.alloc (.cells #[.int .u8 X] T)) (fun b => w.heap.size ≤ b) (.slice (some ⟨w.heap.size, 0, none⟩) 1 1) [x] := by
  subst h
  refine ⟨by simp [bcells], some ⟨w.heap.size, 0, none⟩, 1, rfl, by simp, by simp [maxLen], .inr ⟨w.heap.size, 0, Nat.le_refl _, rfl, fun j u hu => ?_⟩⟩
  rw [(RowAt.new w _ _).cell, Nat.zero_add]
  match j, hu with
  | 0, hu => exact hu
/-- A row of bytes, just laid. -/
theorem BAt.lit (w : World) (cs : Array Value) (l : List UInt8) (n : Nat) (T : TypeId) (h : cs = (bcells l).toArray) (hn : l.length = n) (hm : n ≤ 1099511627776) : BAt (w.alloc (.cells cs T)) (fun b => w.heap.size ≤ b) (.slice (some ⟨w.heap.size, 0, none⟩) n n) l := by
  subst h hn
  refine ⟨by simp [bcells], some ⟨w.heap.size, 0, none⟩, l.length, rfl, Nat.le_refl _, by simp only [maxLen]; omega, .inr ⟨w.heap.size, 0, Nat.le_refl _, rfl, fun j u hu => ?_⟩⟩
  rw [(RowAt.new w _ _).cell, Nat.zero_add, List.getElem?_toArray]
  exact hu
/-- make([]byte, n, cap). -/
theorem wpList_make_bytes {w : World} {ops : Array Oper} {rest : List Oper} {o : Oper} {a : Act} {Q : Exit → Act → World → Prop}
    (hg : o.guard = none) (l c : Operand) (hop : o.op = Op.makeSlice 25 l c) (base : Nat) (L C : Int) (n cap : Nat) (hl : a.eval l = .int .i64 L) (hc : a.eval c = .int .i64 C)
    (hL : L = (n : Int)) (hC : C = (cap : Int)) (h1 : n ≤ cap) (h2 : cap ≤ 1099511627776) (hb : base ≤ w.heap.size)
    (hK : ∀ w', BOwn w' base (.slice (some ⟨w.heap.size, 0, none⟩) n cap) (List.replicate n 0) → Keeps (fun _ => False) w w' → wpList Tryd.prog ops Q rest (a.put o.dst (.slice (some ⟨w.heap.size, 0, none⟩) n cap)) w') :
    wpList Tryd.prog ops Q (o :: rest) a w := by
  obtain ⟨i, hi, hz, hs, hby⟩ := info_parts info_u8
  refine wpList_plain hg fun K hK' => ?_
  have hrun := run_make (P := Tryd.prog) w 25 _ i _ Tryd.underlying25 hi hz .i64 .i64 L C (by omega) (by omega) (by rw [hby]; omega) (by omega)
  have e1 : L.toNat = n := by omega
  have e2 : C.toNat = cap := by omega
  rw [e1, e2, hs, Nat.mul_one] at hrun
  unfold Oper.wp
  simp [execOp, hop, hl, hc, hrun, Result.andThen]
  refine hK' _ _ (hK _ ?_ ((Keeps.refl _ w).alloc _))
  have hcells : madeCells (Value.int .u8 0).cells cap = (List.replicate cap (Value.int .u8 0)).toArray := by
    rw [← toList_madeCells_one (.int .u8 0) cap]
    rfl
  refine ⟨by simp [bcells_length], bcells_one _, .inr ⟨w.heap.size, 0, cap, _, hb, by simp, by simpa using h1, by simp only [maxLen]; omega, RowAt.new w _ _, by rw [size_madeCells]; omega, fun j hj => ?_⟩⟩
  have hj' : j < n := by simpa using hj
  have hj2 : j < cap := by omega
  rw [hcells, Nat.zero_add, List.getElem?_toArray, List.getElem?_replicate, if_pos hj2]
  simp [bcells, bcell, hj']

end Go.Proofs.YtekaoknpjpbjgaaDoor

/-! A slice of bytes without its first ones, as the machine cuts. -/
namespace Go.Proofs.YtekaoknpjpbjgaaDoor
set_option linter.unusedVariables false
set_option linter.unusedSimpArgs false
open Go.RowKit
/-- As the machine cuts off the first bytes. -/
def cutA (a : Option Addr) (c k : Nat) : Option Addr := if c = k then a else a.map (·.add k)
theorem BAt.cutG {w : World} {p : Nat → Prop} {a : Option Addr} {n c : Nat} {l : List UInt8} (h : BAt w p (.slice a n c) l) (k : Nat) (hk : k ≤ l.length) : BAt w p (.slice (cutA a c k) (n - k) (c - k)) (l.drop k) := by
  obtain ⟨h1, a1, c1, e, h3, h4, h5⟩ := h
  simp only [Value.slice.injEq] at e
  obtain ⟨rfl, rfl, rfl⟩ := e
  have hl : (l.drop k).length = l.length - k := List.length_drop
  refine ⟨by rw [bcells_length, Nat.mul_one], cutA a c k, c - k, by rw [hl], by rw [hl]; omega, by omega, ?_⟩
  by_cases hz : l.drop k = []
  · left
    rw [hz]
    rfl
  · right
    have : 0 < (l.drop k).length := List.length_pos_iff.2 hz
    rcases h5 with h5 | ⟨b, off, hb, rfl, hx⟩
    · have hll : (bcells l).length = 0 := by rw [h5]; rfl
      rw [bcells_length] at hll
      omega
    · refine ⟨b, off + k, hb, ?_, fun j u hu => ?_⟩
      · unfold cutA
        rw [if_neg (by omega), Option.map_some, addr_add]
      · rw [Nat.add_assoc]
        refine hx (k + j) u ?_
        rw [← hu]
        simp [bcells, List.getElem?_drop]

theorem BOwn.firstG {w : World} {B n c : Nat} {a : Option Addr} {l : List UInt8} (h : BOwn w B (.slice a n c) l) (k : Nat) (hk : k ≤ l.length) : BOwn w B (.slice a k c) (l.take k) := by
  obtain ⟨h1, h0, h2⟩ := h
  have hlk : (l.take k).length = k := by rw [List.length_take]; omega
  rcases h2 with ⟨e, hn, hx⟩ | ⟨g', off', c', cs, hb, e, h3, h4, hr, h5, h6⟩
  · simp only [Value.slice.injEq] at e
    obtain ⟨rfl, rfl, rfl⟩ := e
    obtain rfl : k = 0 := by omega
    exact ⟨by simp [bcells], by simp [bcells], .inl ⟨rfl, by simp, by simp [bcells]⟩⟩
  · simp only [Value.slice.injEq] at e
    obtain ⟨rfl, rfl, rfl⟩ := e
    refine ⟨by rw [bcells_length, Nat.mul_one], bcells_one _, .inr ⟨g', off', c, cs, hb, by rw [hlk], by omega, h4, hr, h5, fun j hj => ?_⟩⟩
    have hj' : j < k := by omega
    rw [h6 j (by omega)]
    simp [bcells, hj']
end Go.Proofs.YtekaoknpjpbjgaaDoor
