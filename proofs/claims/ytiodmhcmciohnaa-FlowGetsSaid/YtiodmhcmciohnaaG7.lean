/- Words, walks and plain laws that the claim leans on, part 7. -/
import Derived.Test.YtiodmhcmciohnaaG5
import Derived.Test.YtiodmhcmciohnaaG6

/-! Words that stay: bytes, rows of bytes. -/
namespace Go.Proofs.Ytiodmhcmciohnaa
set_option linter.unusedVariables false
set_option linter.unusedSimpArgs false
open Go.RowKit

def BRd (w : World) (v : Value) (l : List UInt8) : Prop := BAt w (· < w.heap.size) v l
def BBRd (w : World) (v : Value) (ls : List (List UInt8)) : Prop := BBAt w (· < w.heap.size) (· < w.heap.size) v ls
theorem BRd.keeps {w w' : World} {v : Value} {l : List UInt8} (h : BRd w v l) (hk : Keeps (fun _ => False) w w') : BRd w' v l :=
  (BAt.keeps h hk (fun _ _ h => h)).mono fun b hb => Nat.lt_of_lt_of_le hb hk.size
theorem BBRd.keeps {w w' : World} {v : Value} {ls : List (List UInt8)} (h : BBRd w v ls) (hk : Keeps (fun _ => False) w w') : BBRd w' v ls := by
  obtain ⟨vs, h1, h2, h3⟩ := BBAt.keeps h hk (fun _ _ h => h) (fun _ _ h => h)
  exact ⟨vs, h1, h2.mono fun b hb => Nat.lt_of_lt_of_le hb hk.size, fun i x l hx hl => (h3 i x l hx hl).mono fun b hb => Nat.lt_of_lt_of_le hb hk.size⟩
def rBytes (l : List UInt8) : Rel := ⟨fun v w => BRd w v l, fun _ _ _ h hk => h.keeps hk⟩
def rRows (ls : List (List UInt8)) : Rel := ⟨fun v w => BBRd w v ls, fun _ _ _ h hk => h.keeps hk⟩
end Go.Proofs.Ytiodmhcmciohnaa

/-! Rows of rows of bytes, just laid. -/
namespace Go.Proofs.Ytiodmhcmciohnaa
set_option linter.unusedVariables false
set_option linter.unusedSimpArgs false
open Go.RowKit

theorem SAt.of_row {w : World} {b T : Nat} {cs : Array Value} {p : Nat → Prop} (h : RowAt w b cs T) (off n N : Nat) (xs : List Value) (hl : xs.length = n) (hN : n ≤ N) (hm : N ≤ maxLen) (hp : p b) (hc : ∀ j, j < n → cs[off + j]? = xs[j]?) :
    SAt w p 1 (.slice (some ⟨b, off, none⟩) n N) n xs :=
  ⟨by omega, _, N, rfl, hN, hm, .inr ⟨b, off, hp, rfl, fun j u hu => by
    have hj : j < xs.length := (List.getElem?_eq_some_iff.1 hu).1
    rw [h.cell, hc j (by omega), hu]⟩⟩
theorem BAt.low {w : World} {p : Nat → Prop} {v : Value} {l : List UInt8} (h : BAt w p v l) : BAt w (· < w.heap.size) v l := (SAt.lt h).mono fun _ h => h.2
theorem BBAt.cons {w : World} {p q : Nat → Prop} {v x : Value} {vs : List Value} {l : List UInt8} {ls : List (List UInt8)} (hs : SAt w p 1 v (vs.length + 1) (x :: vs)) (hl : vs.length = ls.length) (hx : BAt w q x l)
    (hb : ∀ (i : Nat) (x : Value) (l : List UInt8), vs[i]? = some x → ls[i]? = some l → BAt w q x l) : BBAt w p q v (l :: ls) := by
  refine ⟨x :: vs, by simp [hl], by simpa using hs, fun i y m hy hm => ?_⟩
  cases i with
  | zero => simp at hy hm; subst hy hm; exact hx
  | succ i => exact hb i y m (by simpa using hy) (by simpa using hm)
theorem BBAt.pair {w : World} {q : Nat → Prop} {T : TypeId} {x y : Value} {l m : List UInt8} (hx : BAt w q x l) (hy : BAt w q y m) :
    BBAt (w.alloc (.cells #[x, y] T)) (fun b => b = w.heap.size) q (.slice (some ⟨w.heap.size, 0, none⟩) 2 2) [l, m] := by
  have hk := (Keeps.refl (fun _ => False) w).alloc (.cells #[x, y] T)
  refine BBAt.cons (vs := [y]) (x := x) (SAt.of_row (RowAt.new w _ _) 0 2 2 [x, y] rfl (Nat.le_refl _) (by simp [maxLen]) rfl (fun j hj => by rw [Nat.zero_add]; exact List.getElem?_toArray)) rfl (hx.keeps hk (fun _ _ h => h)) (fun i z n hz hn => ?_)
  cases i with
  | zero => simp at hz hn; subst hz hn; exact hy.keeps hk (fun _ _ h => h)
  | succ i => simp at hz
theorem BBAt.one {w : World} {q : Nat → Prop} {T : TypeId} {x : Value} {l : List UInt8} (hx : BAt w q x l) :
    BBAt (w.alloc (.cells #[x] T)) (fun b => b = w.heap.size) q (.slice (some ⟨w.heap.size, 0, none⟩) 1 1) [l] := by
  have hk := (Keeps.refl (fun _ => False) w).alloc (.cells #[x] T)
  exact BBAt.cons (vs := []) (x := x) (SAt.of_row (RowAt.new w _ _) 0 1 1 [x] rfl (Nat.le_refl _) (by simp [maxLen]) rfl (fun j hj => by rw [Nat.zero_add]; exact List.getElem?_toArray)) rfl (hx.keeps hk (fun _ _ h => h)) (fun i z n hz hn => by simp at hz)
theorem BBAt.low {w : World} {p q : Nat → Prop} {v : Value} {ls : List (List UInt8)} (h : BBAt w p q v ls) : BBAt w (· < w.heap.size) (· < w.heap.size) v ls := by
  obtain ⟨vs, h1, h2, h3⟩ := h
  exact ⟨vs, h1, (SAt.lt h2).mono fun _ h => h.2, fun i x l hx hl => (h3 i x l hx hl).low⟩
end Go.Proofs.Ytiodmhcmciohnaa

/-! Words for slices of ints. -/
namespace Go.Proofs.Ytiodmhcmciohnaa
set_option linter.unusedVariables false
set_option linter.unusedSimpArgs false
open Go.RowKit

def zcell (z : Int) : Value := .int .i64 z
def zcells (l : List Int) : List Value := l.map zcell
theorem zcells_length (l : List Int) : (zcells l).length = l.length := by simp [zcells]
theorem zcells_append (l m : List Int) : zcells (l ++ m) = zcells l ++ zcells m := by simp [zcells]
theorem zcells_one (l : List Int) : ∀ u ∈ zcells l, u.oneCell' = true := fun u hu => by
  obtain ⟨b, _, rfl⟩ := List.mem_map.1 hu
  rfl
theorem zcells_get {l : List Int} {i : Nat} (h : i < l.length) : (zcells l)[i]? = some (.int .i64 l[i]) := by
  simp [zcells, zcell, h]

/-- v reads the ints l, in a block of p. -/
def ZAt (w : World) (p : Nat → Prop) (v : Value) (l : List Int) : Prop := SAt w p 1 v l.length (zcells l)
/-- v is the call's own, the ints l. -/
def ZOwn (w : World) (base : Nat) (v : Value) (l : List Int) : Prop := Own w base 3 1 v l.length (zcells l)

theorem ZAt.keeps {w w' : World} {p : Nat → Prop} {v : Value} {l : List Int} {S : Nat → Prop} (h : ZAt w p v l) (hk : Keeps S w w') (hS : ∀ b, p b → ¬ S b) : ZAt w' p v l := SAt.keeps h hk hS
theorem ZAt.mono {w : World} {p q : Nat → Prop} {v : Value} {l : List Int} (h : ZAt w p v l) (hpq : ∀ b, p b → q b) : ZAt w q v l := SAt.mono h hpq
theorem ZAt.low {w : World} {p : Nat → Prop} {v : Value} {l : List Int} (h : ZAt w p v l) : ZAt w (· < w.heap.size) v l := (SAt.lt h).mono fun _ h => h.2
theorem ZOwn.keeps {w w' : World} {base : Nat} {v : Value} {l : List Int} {S : Nat → Prop} (h : ZOwn w base v l) (hk : Keeps S w w') (hS : ∀ b, v.ownBlock = some b → ¬ S b) : ZOwn w' base v l := Own.keeps h hk hS
theorem ZOwn.bat {w : World} {base : Nat} {v : Value} {l : List Int} (h : ZOwn w base v l) : ZAt w (fun b => v.ownBlock = some b) v l := Own.sat h
theorem ZOwn.block {w : World} {base : Nat} {v : Value} {l : List Int} (h : ZOwn w base v l) (b : Nat) (hb : v.ownBlock = some b) : base ≤ b ∧ b < w.heap.size := Own.block h b hb
theorem ZOwn.mono {w : World} {base base' : Nat} {v : Value} {l : List Int} (h : ZOwn w base v l) (hb : base' ≤ base) : ZOwn w base' v l := Own.mono h hb
theorem ZOwn.nil (w : World) (base : Nat) : ZOwn w base (.slice none 0 0) [] := Own.nil w base _ 1

theorem ZAt.get {w : World} {p : Nat → Prop} {v : Value} {l : List Int} (h : ZAt w p v l) (h0 : 0 < l.length) :
    ∃ b off c, v = .slice (some ⟨b, off, none⟩) l.length c ∧ l.length ≤ c ∧ c ≤ maxLen ∧ p b ∧ ∀ i (hi : i < l.length), w.cell? ⟨b, off + i, none⟩ = some (.int .i64 l[i]) := by
  obtain ⟨_, a, c, rfl, h3, h4, h5⟩ := h
  rcases h5 with h5 | ⟨b, off, hb, rfl, hc⟩
  · have h6 := zcells_length l
    rw [h5, List.length_nil] at h6
    omega
  · exact ⟨b, off, c, rfl, h3, h4, hb, fun i hi => hc i _ (zcells_get hi)⟩
theorem ZAt.slice {w : World} {p : Nat → Prop} {v : Value} {l : List Int} (h : ZAt w p v l) : ∃ a c, v = .slice a l.length c ∧ l.length ≤ c ∧ c ≤ maxLen := SAt.slice h
theorem ZOwn.place {w : World} {B : Nat} {v : Value} {l : List Int} (h : ZOwn w B v l) (h0 : 0 < l.length) : ∃ g off c, v = .slice (some ⟨g, off, none⟩) l.length c ∧ l.length ≤ c ∧ c ≤ maxLen ∧ B ≤ g := by
  obtain ⟨h1, _, h2⟩ := h
  rcases h2 with ⟨rfl, h3, -⟩ | ⟨g, off, c, cs', hb, rfl, h3, h4, hr', h5, h6⟩
  · omega
  · exact ⟨g, off, c, rfl, h3, h4, hb⟩
theorem ZOwn.at {w : World} {B g off n c : Nat} {l : List Int} (h : ZOwn w B (.slice (some ⟨g, off, none⟩) n c) l) (i : Nat) (hi : i < l.length) :
    w.cell? ⟨g, off + i, none⟩ = some (.int .i64 l[i]) ∧ w.frozen? ⟨g, off + i, none⟩ = false ∧
      ∀ x : Int, ZOwn (w.setCell ⟨g, off + i, none⟩ (.int .i64 x)) B (.slice (some ⟨g, off, none⟩) n c) (l.set i x) := by
  obtain ⟨h1, h0, h2⟩ := h
  rcases h2 with ⟨e, -, -⟩ | ⟨g', off', c', cs, hb, e, h3, h4, hr, h5, h6⟩
  · simp at e
  · simp only [Value.slice.injEq, Option.some.injEq, Addr.mk.injEq, and_true] at e
    obtain ⟨⟨rfl, rfl⟩, rfl, rfl⟩ := e
    refine ⟨?_, hr.frozen _, fun x => ⟨by simp [zcells_length], zcells_one _, .inr ⟨g, off, c, cs.setIfInBounds (off + i) (.int .i64 x), hb, by simp, by simpa using h3, h4, hr.set _ _, by simpa using h5, fun j hj => ?_⟩⟩⟩
    · rw [hr.cell, h6 i (by omega)]
      simp [zcells, zcell, hi]
    · have hj' : j < l.length := by simpa using hj
      by_cases hij : i = j
      · subst hij
        rw [Array.getElem?_setIfInBounds_self_of_lt (by omega)]
        simp [zcells, zcell, hj']
      · rw [Array.getElem?_setIfInBounds_ne (by omega), h6 j (by simpa using hj)]
        simp [zcells, hij]

theorem info_int : (Try.prog.info? 3).map (fun i => (i.zero, i.size, i.bytes)) = some (some (.int .i64 0), 1, 8) := by kernel_rfl
/-- Ints behind ints. -/
theorem run_append_ints {w : World} {base : Nat} {v x : Value} {l m : List Int} {p : Nat → Prop} {ty : TypeId} (hown : ZOwn w base v l) (hx : ZAt w p x m) (hmax : l.length + m.length ≤ 1099511627776) (hbase : base ≤ w.heap.size) :
    ∃ v' w', (Builtin.append_ #[31, 31] ty #[v, x]).run Try.prog w = .ok v' w' ∧ ZOwn w' base v' (l ++ m) ∧ Keeps (fun b => v.ownBlock = some b) w w' ∧
      (v'.ownBlock = v.ownBlock ∨ ∃ b, v'.ownBlock = some b ∧ w.heap.size ≤ b) := by
  obtain ⟨i, hi, hz, hs, hb⟩ := info_parts info_int
  obtain ⟨v', w', hr, ha⟩ := run_append (P := Try.prog) (ty := ty) (tx := 31) Try.underlying31 hi hz hs hb (by rfl) hown (SAt.src Try.underlying31 hx (zcells_one m) (by omega))
    (by simp only [maxLen]; omega) (by omega) hbase
  exact ⟨v', w', hr, by have := ha.own; rwa [← zcells_append, ← List.length_append] at this, ha.keeps, ha.place⟩
/-- A row of ints, just laid. -/
theorem ZAt.lit (w : World) (cs : Array Value) (l : List Int) (n : Nat) (T : TypeId) (h : cs = (zcells l).toArray) (hn : l.length = n) (hm : n ≤ 1099511627776) : ZAt (w.alloc (.cells cs T)) (fun b => w.heap.size ≤ b) (.slice (some ⟨w.heap.size, 0, none⟩) n n) l := by
  subst h hn
  refine ⟨by simp [zcells], some ⟨w.heap.size, 0, none⟩, l.length, rfl, Nat.le_refl _, by simp only [maxLen]; omega, .inr ⟨w.heap.size, 0, Nat.le_refl _, rfl, fun j u hu => ?_⟩⟩
  rw [(RowAt.new w _ _).cell, Nat.zero_add, List.getElem?_toArray]
  exact hu
theorem ZOwn.lit (w : World) (cs : Array Value) (l : List Int) (n B : Nat) (h : cs = (zcells l).toArray) (hn : l.length = n) (hm : n ≤ 1099511627776) (hB : B ≤ w.heap.size) : ZOwn (w.alloc (.cells cs 3)) B (.slice (some ⟨w.heap.size, 0, none⟩) n n) l := by
  subst h hn
  refine ⟨by simp [zcells], zcells_one _, .inr ⟨w.heap.size, 0, l.length, _, hB, rfl, Nat.le_refl _, by simp only [maxLen]; omega, RowAt.new w _ _, by simp [zcells], fun j hj => by rw [Nat.zero_add, List.getElem?_toArray]⟩⟩
def ZRd (w : World) (v : Value) (l : List Int) : Prop := ZAt w (· < w.heap.size) v l
theorem ZRd.keeps {w w' : World} {v : Value} {l : List Int} (h : ZRd w v l) (hk : Keeps (fun _ => False) w w') : ZRd w' v l :=
  (ZAt.keeps h hk (fun _ _ h => h)).mono fun b hb => Nat.lt_of_lt_of_le hb hk.size
def rInts (l : List Int) : Rel := ⟨fun v w => ZRd w v l, fun _ _ _ h hk => h.keeps hk⟩
end Go.Proofs.Ytiodmhcmciohnaa
