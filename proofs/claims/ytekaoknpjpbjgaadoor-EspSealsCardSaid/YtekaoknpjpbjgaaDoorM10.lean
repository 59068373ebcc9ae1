/- Words, walks and plain laws that the claim leans on, part 10. -/
import Derived.Test.YtekaoknpjpbjgaaDoorM3
import Derived.Deep.MidRow
import Derived.Laws.CopyOwn

/-! Arrays of a fixed length, read and written whole. -/
namespace Go.Proofs.YtekaoknpjpbjgaaDoor
set_option linter.unusedVariables false
set_option linter.unusedSimpArgs false
open Go.RowKit

theorem wpList_load_whole {P : Program} {ops : Array Oper} {rest : List Oper} {o : Oper} {a : Act} {w : World} {Q : Exit → Act → World → Prop} (hgd : o.guard = none) (ty : TypeId) (x : Operand) (ho : o.op = .load ty x)
    (g : Nat) (hx : a.eval x = .pointer (some ⟨g, 0, none⟩)) (t : TypeId) (cs : Array Value) (n : Nat) (e : TypeId) (hg : RowAt w g cs t) (hu : P.underlying ty = some (.array n e))
    (hn : cs.size = n) (hi : (P.info? ty).map (·.size) = some n) (h : wpList P ops Q rest (a.put o.dst (.agg cs)) w) : wpList P ops Q (o :: rest) a w :=
  wpList_load_row hgd ty x ho g hx t cs (0, 0) _ hg hu rfl (hn ▸ hi) h

theorem RowAt.setCells_whole {g t : Nat} {w : World} {old cells : Array Value} (hg : RowAt w g old t) (hs : old.size = cells.size) : RowAt (w.setCells g 0 cells.toList) g cells t := by
  obtain ⟨cs', h1, h2, h3, -⟩ := RowAt.setCells cells.toList 0 w old hg (by simp; omega)
  refine h1.eq (Array.ext_getElem? fun i => ?_)
  by_cases hi : i < cells.size
  · have := h3 i (by simpa using hi)
    rw [Nat.zero_add] at this
    rw [this]; simp
  · rw [Array.getElem?_eq_none (by omega), Array.getElem?_eq_none (by omega)]

theorem wpList_store_whole {P : Program} {ops : Array Oper} {rest : List Oper} {o : Oper} {a : Act} {w : World} {Q : Exit → Act → World → Prop} (hgd : o.guard = none) (ty : TypeId) (x y : Operand) (ho : o.op = .store ty x y)
    (g : Nat) (cells : Array Value) (hx : a.eval x = .pointer (some ⟨g, 0, none⟩)) (hy : a.eval y = .agg cells) (t : TypeId) (old : Array Value) (n : Nat) (hg : RowAt w g old t)
    (hn : cells.size = n) (hs : old.size = n) (hi : (P.info? ty).map (·.size) = some n) (h1 : cells.all (·.oneCell') = true)
    (h : ∀ w', RowAt w' g cells t → Keeps (· = g) w w' → wpList P ops Q rest (a.put o.dst undef) w') : wpList P ops Q (o :: rest) a w := by
  subst hn
  refine wpList_store_mid hgd ty x y ho g 0 cells hx hy (fun j hj => ?_) hi h1 (h _ (hg.setCells_whole hs) (Keeps.setCells (S := (· = g)) (.inl rfl) _ _ _ (Keeps.refl _ _)))
  rw [Nat.zero_add]
  refine ⟨?_, hg.frozen j⟩
  rw [hg.cell, Array.getElem?_eq_getElem (by omega)]
  rfl

/-- The end of a function whose result is an array that lies in a block. -/
theorem results_whole {P : Program} {fn : Func} {p : Tmp} {ty : TypeId} (h : fn.results = #[.cell p ty]) (tmps : Array Value) (w : World) (g : Nat) (t : TypeId) (cs : Array Value) (n : Nat) (e : TypeId)
    (hp : tmps.getD p undef = .pointer (some ⟨g, 0, none⟩)) (hg : RowAt w g cs t) (hu : P.underlying ty = some (.array n e)) (hn : cs.size = n) (hi : (P.info? ty).map (·.size) = some n) :
    (results fn tmps).run P w = .ok (.agg cs) w := results_cell_row h tmps w g t cs (0, 0) _ hp hg hu rfl (hn ▸ hi)
theorem ret_whole {P : Program} {fn : Func} {R : Ending → World → Prop} {a : Act} {w : World} (p : Tmp) (ty : TypeId) (h : fn.results = #[.cell p ty]) (g : Nat) (t : TypeId) (cs : Array Value) (n : Nat) (e : TypeId)
    (hp : a.tmps.getD p undef = .pointer (some ⟨g, 0, none⟩)) (hg : RowAt w g cs t) (hu : P.underlying ty = some (.array n e)) (hn : cs.size = n) (hi : (P.info? ty).map (·.size) = some n) (hd : a.defers = [])
    (hR : R (.returned (.agg cs)) w) : bodyPost P fn R .ret a w := bodyPost_ret (results_whole h a.tmps w g t cs n e hp hg hu hn hi) hd hR

/-- copy within rows. -/
theorem wpList_copy_whole {P : Program} {w : World} {ops : Array Oper} {rest : List Oper} {o : Oper} {a : Act} {Q : Exit → Act → World → Prop} (hgd : o.guard = none) (d s : Operand) (dT sT : TypeId)
    (ho : o.op = .call { callee := .builtin .copy, args := #[d, s], argTypes := #[dT, sT] }) (elem : TypeId) (hu : P.underlying dT = some (.slice elem)) (hsz : (P.info? elem).map (·.size) = some 1)
    (g off dLen dCap : Nat) (ad : Addr) (sLen sCap : Nat) (hd : a.eval d = .slice (some ⟨g, off, none⟩) dLen dCap) (hs : a.eval s = .slice (some ad) sLen sCap)
    (cur : Array Value) (t : TypeId) (hg : RowAt w g cur t) (cs : List Value) (hn : cs.length = Nat.min sLen dLen)
    (hsrc : ∀ j v, cs[j]? = some v → w.cell? (ad.add j) = some v) (hfit : off + cs.length ≤ cur.size) (h1 : ∀ v ∈ cs, v.oneCell' = true)
    (h : ∀ w', RowAt w' g (cur.toList.take off ++ (cs ++ cur.toList.drop (off + cs.length))).toArray t → Keeps (· = g) w w' → wpList P ops Q rest (a.put o.dst (goInt cs.length)) w') : wpList P ops Q (o :: rest) a w := by
  refine wpList_copy_own hgd d s dT sT ho elem hu hsz g off dLen dCap ad sLen sCap hd hs cur t hg cs hn hsrc hfit h1 (h _ (setRow_heap w g _ _ t _ hg) ?_)
  exact ⟨rfl, rfl, rfl, by simp [World.setRow], fun k _ hk => setRow_other w g k _ hk⟩

theorem run_index_row {P : Program} {t e : TypeId} {n k : Nat} {cs : Array Value} {v : Value} {d : TypeDesc} (h : P.underlying t = some (.array n e)) (hk : k < n) (he : P.underlying e = some d)
    (hd : (match d with | .struct _ | .array _ _ => true | _ => false) = false) (hs : (P.info? e).map (·.size) = some 1) (hc : cs[k]? = some v) (w : World) :
    (Instr.index t (.agg cs) (.int .i64 (k : Int))).run P w = .ok v w := by
  have ha : (isAgg e).run P w = .ok false w := by
    unfold isAgg
    rw [Sem.run_bind, run_underlying he w]
    cases d <;> simp_all
  have hn : (0 : Int) ≤ (k : Int) ∧ (k : Int) < (n : Int) := by omega
  cases hq : P.info? e with
  | none => simp [hq] at hs
  | some i =>
    have h1 : i.size = 1 := by simpa [hq] using hs
    simp [Instr.index, run_underlying h, asIntOf, hn, hk, go_sem, part, ha, sizeOf, typeInfo, hq, h1, hc]

end Go.Proofs.YtekaoknpjpbjgaaDoor
