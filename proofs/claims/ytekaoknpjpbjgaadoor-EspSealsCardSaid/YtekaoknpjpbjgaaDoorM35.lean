/- Words, walks and plain laws that the claim leans on, part 35. -/
import Derived.Test.YtekaoknpjpbjgaaDoorM5
import Derived.Test.YtekaoknpjpbjgaaDoorM7

/-! Words for slices of ints. -/
namespace Go.Proofs.YtekaoknpjpbjgaaDoor
set_option linter.unusedVariables false
set_option linter.unusedSimpArgs false
open Go.RowKit

def zcell (z : Int) : Value := .int .i64 z
def zcells (l : List Int) : List Value := l.map zcell
theorem zcells_length (l : List Int) : (zcells l).length = l.length := by simp [zcells]
theorem zcells_append (l m : List Int) : zcells (l ++ m) = zcells l ++ zcells m := by simp [zcells]
theorem zcells_one (l : List Int) : ∀ u ∈ zcells l, u.oneCell' = true := fun u hu => by
  obtain ⟨b, _, rfl⟩ := List.mem_map.1 hu
  rfl
theorem zcells_get {l : List Int} {i : Nat} (h : i < l.length) : (zcells l)[i]? = some (.int .i64 l[i]) := by
  simp [zcells, zcell, h]

/-- v reads the ints l, in a block of p. -/
def ZAt (w : World) (p : Nat → Prop) (v : Value) (l : List Int) : Prop := SAt w p 1 v l.length (zcells l)
/-- v is the call's own, the ints l. -/
def ZOwn (w : World) (base : Nat) (v : Value) (l : List Int) : Prop := Own w base 3 1 v l.length (zcells l)

theorem ZAt.keeps {w w' : World} {p : Nat → Prop} {v : Value} {l : List Int} {S : Nat → Prop} (h : ZAt w p v l) (hk : Keeps S w w') (hS : ∀ b, p b → ¬ S b) : ZAt w' p v l := SAt.keeps h hk hS
theorem ZAt.mono {w : World} {p q : Nat → Prop} {v : Value} {l : List Int} (h : ZAt w p v l) (hpq : ∀ b, p b → q b) : ZAt w q v l := SAt.mono h hpq
theorem ZAt.low {w : World} {p : Nat → Prop} {v : Value} {l : List Int} (h : ZAt w p v l) : ZAt w (· < w.heap.size) v l := (SAt.lt h).mono fun _ h => h.2
theorem ZOwn.keeps {w w' : World} {base : Nat} {v : Value} {l : List Int} {S : Nat → Prop} (h : ZOwn w base v l) (hk : Keeps S w w') (hS : ∀ b, v.ownBlock = some b → ¬ S b) : ZOwn w' base v l := Own.keeps h hk hS
theorem ZOwn.bat {w : World} {base : Nat} {v : Value} {l : List Int} (h : ZOwn w base v l) : ZAt w (fun b => v.ownBlock = some b) v l := Own.sat h
theorem ZOwn.block {w : World} {base : Nat} {v : Value} {l : List Int} (h : ZOwn w base v l) (b : Nat) (hb : v.ownBlock = some b) : base ≤ b ∧ b < w.heap.size := Own.block h b hb
theorem ZOwn.mono {w : World} {base base' : Nat} {v : Value} {l : List Int} (h : ZOwn w base v l) (hb : base' ≤ base) : ZOwn w base' v l := Own.mono h hb
theorem ZOwn.nil (w : World) (base : Nat) : ZOwn w base (.slice none 0 0) [] := Own.nil w base _ 1

theorem ZAt.get {w : World} {p : Nat → Prop} {v : Value} {l : List Int} (h : ZAt w p v l) (h0 : 0 < l.length) :
    ∃ b off c, v = .slice (some ⟨b, off, none⟩) l.length c ∧ l.length ≤ c ∧ c ≤ maxLen ∧ p b ∧ ∀ i (hi : i < l.length), w.cell? ⟨b, off + i, none⟩ = some (.int .i64 l[i]) := by
  obtain ⟨_, a, c, rfl, h3, h4, h5⟩ := h
  rcases h5 with h5 | ⟨b, off, hb, rfl, hc⟩
  · have h6 := zcells_length l
    rw [h5, List.length_nil] at h6
    omega
  · exact ⟨b, off, c, rfl, h3, h4, hb, fun i hi => hc i _ (zcells_get hi)⟩
theorem ZAt.slice {w : World} {p : Nat → Prop} {v : Value} {l : List Int} (h : ZAt w p v l) : ∃ a c, v = .slice a l.length c ∧ l.length ≤ c ∧ c ≤ maxLen := SAt.slice h
theorem ZOwn.place {w : World} {B : Nat} {v : Value} {l : List Int} (h : ZOwn w B v l) (h0 : 0 < l.length) : ∃ g off c, v = .slice (some ⟨g, off, none⟩) l.length c ∧ l.length ≤ c ∧ c ≤ maxLen ∧ B ≤ g := by
  obtain ⟨h1, _, h2⟩ := h
  rcases h2 with ⟨rfl, h3, -⟩ | ⟨g, off, c, cs', hb, rfl, h3, h4, hr', h5, h6⟩
  · omega
  · exact ⟨g, off, c, rfl, h3, h4, hb⟩
theorem ZOwn.at {w : World} {B g off n c : Nat} {l : List Int} (h : ZOwn w B (.slice (some ⟨g, off, none⟩) n c) l) (i : Nat) (hi : i < l.length) :
    w.cell? ⟨g, off + i, none⟩ = some (.int .i64 l[i]) ∧ w.frozen? ⟨g, off + i, none⟩ = false ∧
      ∀ x : Int, ZOwn (w.setCell ⟨g, off + i, none⟩ (.int .i64 x)) B (.slice (some ⟨g, off, none⟩) n c) (l.set i x) := by
  obtain ⟨h1, h0, h2⟩ := h
  rcases h2 with ⟨e, -, -⟩ | ⟨g', off', c', cs, hb, e, h3, h4, hr, h5, h6⟩
  · simp at e
  · simp only [Value.slice.injEq, Option.some.injEq, Addr.mk.injEq, and_true] at e
    obtain ⟨⟨rfl, rfl⟩, rfl, rfl⟩ := e
    refine ⟨?_, hr.frozen _, fun x => ⟨by simp [zcells_length], zcells_one _, .inr ⟨g, off, c, cs.setIfInBounds (off + i) (.int .i64 x), hb, by simp, by simpa using h3, h4, hr.set _ _, by simpa using h5, fun j hj => ?_⟩⟩⟩
    · rw [hr.cell, h6 i (by omega)]
      simp [zcells, zcell, hi]
    · have hj' : j < l.length := by simpa using hj
      by_cases hij : i = j
      · subst hij
        rw [Array.getElem?_setIfInBounds_self_of_lt (by omega)]
        simp [zcells, zcell, hj']
      · rw [Array.getElem?_setIfInBounds_ne (by omega), h6 j (by simpa using hj)]
        simp [zcells, hij]

theorem info_int : (Tryd.prog.info? 3).map (fun i => (i.zero, i.size, i.bytes)) = some (some (.int .i64 0), 1, 8) := by kernel_rfl
/-- Ints behind ints. -/
theorem run_append_ints {w : World} {base : Nat} {v x : Value} {l m : List Int} {p : Nat → Prop} {ty : TypeId} (hown : ZOwn w base v l) (hx : ZAt w p x m) (hmax : l.length + m.length ≤ 1099511627776) (hbase : base ≤ w.heap.size) :
    ∃ v' w', (Builtin.append_ #[76, 76] ty #[v, x]).run Tryd.prog w = .ok v' w' ∧ ZOwn w' base v' (l ++ m) ∧ Keeps (fun b => v.ownBlock = some b) w w' ∧
      (v'.ownBlock = v.ownBlock ∨ ∃ b, v'.ownBlock = some b ∧ w.heap.size ≤ b) := by
  obtain ⟨i, hi, hz, hs, hb⟩ := info_parts info_int
  obtain ⟨v', w', hr, ha⟩ := run_append (P := Tryd.prog) (ty := ty) (tx := 76) Tryd.underlying76 hi hz hs hb (by rfl) hown (SAt.src Tryd.underlying76 hx (zcells_one m) (by omega))
    (by simp only [maxLen]; omega) (by omega) hbase
  exact ⟨v', w', hr, by have := ha.own; rwa [← zcells_append, ← List.length_append] at this, ha.keeps, ha.place⟩
/-- A row of ints, just laid. -/
theorem ZAt.lit (w : World) (cs : Array Value) (l : List Int) (n : Nat) (T : TypeId) (h : cs = (zcells l).toArray) (hn : l.length = n) (hm : n ≤ 1099511627776) : ZAt (w.alloc (.cells cs T)) (fun b => w.heap.size ≤ b) (.slice (some ⟨w.heap.size, 0, none⟩) n n) l := by
  subst h hn
  refine ⟨by simp [zcells], some ⟨w.heap.size, 0, none⟩, l.length, rfl, Nat.le_refl _, by simp only [maxLen]; omega, .inr ⟨w.heap.size, 0, Nat.le_refl _, rfl, fun j u hu => ?_⟩⟩
  rw [(RowAt.new w _ _).cell, Nat.zero_add, List.getElem?_toArray]
  exact hu
theorem ZOwn.lit (w : World) (cs : Array Value) (l : List Int) (n B : Nat) (h : cs = (zcells l).toArray) (hn : l.length = n) (hm : n ≤ 1099511627776) (hB : B ≤ w.heap.size) : ZOwn (w.alloc (.cells cs 3)) B (.slice (some ⟨w.heap.size, 0, none⟩) n n) l := by
  subst h hn
  refine ⟨by simp [zcells], zcells_one _, .inr ⟨w.heap.size, 0, l.length, _, hB, rfl, Nat.le_refl _, by simp only [maxLen]; omega, RowAt.new w _ _, by simp [zcells], fun j hj => by rw [Nat.zero_add, List.getElem?_toArray]⟩⟩
def ZRd (w : World) (v : Value) (l : List Int) : Prop := ZAt w (· < w.heap.size) v l
theorem ZRd.keeps {w w' : World} {v : Value} {l : List Int} (h : ZRd w v l) (hk : Keeps (fun _ => False) w w') : ZRd w' v l :=
  (ZAt.keeps h hk (fun _ _ h => h)).mono fun b hb => Nat.lt_of_lt_of_le hb hk.size
def rInts (l : List Int) : Rel := ⟨fun v w => ZRd w v l, fun _ _ _ h hk => h.keeps hk⟩
end Go.Proofs.YtekaoknpjpbjgaaDoor
