/- Words, walks and plain laws that the claim leans on, part 22. -/
import Derived.Test.YtekaoknpjpbjgaaDoorM2
import Derived.RangeFuncNested
import Derived.RangeFuncBound
import Derived.RangeFuncCalls
import Derived.RangeFuncLeaves
import Derived.OwnWalkIn
import Derived.TacticsInMore
import Derived.LoopNIn
import Derived.LoopIn
import Derived.Shelf.Abstract
import Derived.Shelf.RegionOpen

/-! A range over a function whose rounds read what they are handed: what is handed is told by a word on the world of the call. -/
namespace Go.Proofs.YtekaoknpjpbjgaaDoor
set_option linter.unusedVariables false
set_option linter.unusedSimpArgs false
open Go.RowKit

section
variable {P : Program} {F : Fence} {n : Nat}
/-- A block of book-keeping. -/
def NoCells (w : World) (b : Nat) : Prop := ∃ o, w.heap[b]? = some o ∧ o.isCells = false
theorem Keeps.putObj {S : Nat → Prop} {a w : World} {l : Nat} {o : Obj} (h : Keeps S a w) (hl : S l ∨ a.heap.size ≤ l) : Keeps S a (w.putObj l o) :=
  ⟨h.os, h.tape, h.output, by rw [World.putObj_size]; exact h.size, fun k hk hn => (World.putObj_heap_other (by
    rintro rfl
    rcases hl with hl | hl
    · exact hn hl
    · omega)).trans (h.block k hk hn)⟩
/-- How a round's body ends: normally, so. -/
def Goes (X : World → Prop) : Exit → Act → World → Prop
  | .normal, _, w => X w
  | _, _, _ => False

/-- R k v W: what is handed at round k; J k W: what stands ahead of it; U: the blocks that the rounds may write. -/
theorem wpIn_rangeFunc_R {g : Operand} {p : Tmp} {assign body : Code} {Q : Exit → Act → World → Prop} {a : Act} {w : World}
    (hro : F.round = none) (h1 : 1 ≤ n) {gf : Nat} {lb : Array Value} (hg : a.eval g = .func (.func gf) #[] lb) (hFg : F.fn gf) (eg : ∀ args w, (callFunc gf args).run P w = .ok (.enter gf args) w)
    (N : Nat) (R : Nat → Value → World → Prop) (J : Nat → World → Prop) (U : Nat → Prop) (a₁ : Value → Act)
    (hU : ∀ b, w.heap.size ≤ b → U b)
    (hJ : ∀ k W W', J k W → Keeps (NoCells W) W W' → J k W') (hR : ∀ k v W W', R k v W → Keeps (NoCells W) W W' → R k v W')
    (hassign : ∀ (l : Nat) (v : Value) (W : World) (K : Act → World → Prop), K (a₁ v) W →
      assign.wpIn (F.inRound l) (n - 1 - 1) P (Exit.then K (fun _ _ _ => False)) { tmps := a.tmps.setIfInBounds p v, defers := [] } W)
    (hbody : ∀ (l k : Nat) (v : Value) (W : World), k < N → J k W → R k v W → (∃ r, W.heap[l]? = some (.loop r)) → Keeps U w W →
      body.wpIn (F.inRound l) (n - 1 - 1) P (Goes fun W' => J (k + 1) W' ∧ Keeps U w W' ∧ Keeps (fun b => U b ∧ ¬ NoCells W b) W W') (a₁ v) W)
    (hiter : ∀ (l : Nat) (G : Nat → World → Prop) (W : World), (∀ k A B, G k A → Keeps (fun _ => False) A B → G k B) → Keeps (fun _ => False) w W → w.heap.size ≤ W.heap.size → G 0 W →
      (∀ k v W1, k < N → G k W1 → R k v W1 → YieldAt F (n - 1 - 1) P l #[v] W1 fun e W' => e = .returned (.bool true) ∧ G (k + 1) W' ∧ Keeps U W1 W') → (∀ k A, G k A → Keeps U w A) →
      CallsIn F (n - 1) P gf (#[.func (.yield l) #[] #[]] ++ lb) W fun e W' => (∃ v, e = .returned v) ∧ G N W')
    (h0 : J 0 w)
    (hdone : ∀ (D : Nat) (W : World), w.heap.size ≤ D → J N W → Keeps U w W → W.heap[D]? = some (.deferred (some [])) → Q .normal { a with defers := { target := .collected D, args := #[] } :: a.defers } W) :
    (Code.rangeFunc g #[p] assign body).wpIn F n P Q a w := by
  refine wpIn_rangeFunc ?_
  intro fn hfn
  rw [hro]
  obtain ⟨rec, hrec⟩ : ∃ rec : LoopState → Loop, rec = fun st => { state := st, pending := none, fn, tmps := a.tmps, params := #[p], assign, body, defers := w.heap.size } := ⟨_, rfl⟩
  obtain ⟨W1, hW1⟩ : ∃ W1, (w.alloc (.deferred (some []))).alloc (.loop (rec .ready)) = W1 := ⟨_, rfl⟩
  have hsz : (w.alloc (.deferred (some []))).heap.size = w.heap.size + 1 := World.size_alloc ..
  have hL1 : W1.heap[w.heap.size + 1]? = some (.loop (rec .ready)) := by
    rw [← hW1]
    have := World.alloc_heap_new (w.alloc (.deferred (some []))) (.loop (rec .ready))
    rwa [hsz] at this
  have hD1 : W1.heap[w.heap.size]? = some (.deferred (some [])) := by
    rw [← hW1]
    exact (Below.heap_alloc _ _ _ (by omega)).trans (World.alloc_heap_new w _)
  have hk1 : Keeps (fun _ => False) w W1 := by
    rw [← hW1]
    exact ((Keeps.refl _ w).alloc _).alloc _
  refine ⟨w.heap.size + 1, [{ target := .collected w.heap.size, args := #[] }], W1, { target := .fn (.func gf) lb, args := #[.func (.yield (w.heap.size + 1)) #[] #[]] }, W1, gf,
    #[.func (.yield (w.heap.size + 1)) #[] #[]] ++ lb, W1, ?_, ?_, ?_, ?_, fun _ => h1, ?_⟩
  · rw [← hW1, hrec]
    exact run_enterLoop_outer _ _ _ _ _
  · simp only [resolve, hg]
    simp [go_sem]
  · intro f' hf'
    simp [Target.leads] at hf'
    subst hf'
    exact hFg
  · simp [invoke, go_sem, eg]
  · have fix : ∀ {A B : World} {S : Nat → Prop} {b : Nat} {o : Obj}, A.heap[b]? = some o → Keeps S A B → ¬ S b → B.heap[b]? = some o := fun hA hk hS => (hk.block _ (Array.getElem?_eq_some_iff.1 hA).1 hS).trans hA
    have hj1 : J 0 W1 := hJ 0 w W1 h0 (hk1.mono (fun _ _ h => h.elim))
    refine (hiter (w.heap.size + 1) (fun k W => J k W ∧ Keeps U w W ∧ W.heap[w.heap.size + 1]? = some (.loop (rec .ready)) ∧ W.heap[w.heap.size]? = some (.deferred (some []))) W1
      (fun k A B hA hk => ⟨hJ k A B hA.1 (hk.mono (fun _ _ h => h.elim)), hA.2.1.trans hk (fun _ _ h => h.elim), fix hA.2.2.1 hk (fun h => h), fix hA.2.2.2 hk (fun h => h)⟩) hk1 hk1.size ⟨hj1, hk1.mono (fun _ _ h => h.elim), hL1, hD1⟩ ?_ (fun k A hA => hA.2.1)).mono ?_
    · rintro k v W hkN ⟨hj, hu, hl, hd⟩ hr
      have hlt : w.heap.size + 1 < W.heap.size := (Array.getElem?_eq_some_iff.1 hl).1
      have hy := run_yield (P := P) (args := #[v]) hl (by rw [hrec]; rfl)
      rw [hrec] at hy
      have hy2 : (Instr.yield (w.heap.size + 1) #[v]).run P W = .ok (.round (w.heap.size + 1) fn (a.tmps.setIfInBounds p v) assign body) W := by
        rw [hy]
        simp
      refine ⟨fn, _, assign, body, hy2, roundIn_of_wpIn hfn (hassign _ v W _ ?_)⟩
      clear hy hy2
      refine ⟨_, run_beginRound hl (by rw [hrec]), ?_⟩
      obtain ⟨W2, hW2⟩ : ∃ W2, W.putObj (w.heap.size + 1) (.loop { rec .ready with state := .busy }) = W2 := ⟨_, rfl⟩
      rw [hW2]
      have hn2 : NoCells W (w.heap.size + 1) := ⟨_, hl, rfl⟩
      have hk2 : Keeps (NoCells W) W W2 := by rw [← hW2]; exact (Keeps.refl _ W).putObj (.inl hn2)
      have hkU2 : Keeps U W W2 := by rw [← hW2]; exact (Keeps.refl _ W).putObj (.inl (hU _ (by omega)))
      have hl2 : W2.heap[w.heap.size + 1]? = some (.loop { rec .ready with state := .busy }) := by rw [← hW2]; exact World.putObj_heap_same hlt
      have hd2 : W2.heap[w.heap.size]? = some (.deferred (some [])) := by rw [← hW2]; exact (World.putObj_heap_other (by omega)).trans hd
      refine wpIn_mono (hbody _ k v W2 hkN (hJ k W W2 hj hk2) (hR k v W W2 hr hk2) ⟨_, hl2⟩ (hu.trans hkU2 (fun _ _ h => h))) ?_
      rintro e a3 W3 hp
      cases e with
      | normal =>
        obtain ⟨hj3, hu3, hk3⟩ := hp
        have hl3 := fix hl2 hk3 (fun h => h.2 ⟨_, hl2, rfl⟩)
        have hd3 := fix hd2 hk3 (fun h => h.2 ⟨_, hd2, rfl⟩)
        have hend := run_endRound (P := P) none hl3
        obtain ⟨W4, hW4⟩ : ∃ W4, W3.putObj (w.heap.size + 1) (.loop (rec .ready)) = W4 := ⟨_, rfl⟩
        have hlt3 : w.heap.size + 1 < W3.heap.size := (Array.getElem?_eq_some_iff.1 hl3).1
        have hk4 : Keeps (NoCells W3) W3 W4 := by rw [← hW4]; exact (Keeps.refl _ W3).putObj (.inl ⟨_, hl3, rfl⟩)
        have hkU4 : Keeps U W3 W4 := by rw [← hW4]; exact (Keeps.refl _ W3).putObj (.inl (hU _ (by omega)))
        refine ⟨_, W4, ?_, rfl, ⟨hJ (k + 1) W3 W4 hj3 hk4, hu3.trans hkU4 (fun _ _ h => h), ?_, ?_⟩, ?_⟩
        · rw [← hW4]
          rw [hrec] at hend ⊢
          exact hend
        · rw [← hW4]; exact World.putObj_heap_same hlt3
        · rw [← hW4]; exact (World.putObj_heap_other (by omega)).trans hd3
        · exact (hkU2.trans hk3 (fun _ _ h => h.1)).trans hkU4 (fun _ _ h => h)
      | ret => exact hp.elim
      | exit id => exact hp.elim
      | goto t => exact hp.elim
      | panic ch => exact hp.elim
      | outgrown => exact hp.elim
    · rintro e W2 ⟨⟨v, rfl⟩, hj, hu, hl, hd⟩
      have hend := run_endLoop (P := P) hl (by rw [hrec]; simp)
      obtain ⟨W4, hW4⟩ : ∃ W4, W2.putObj (w.heap.size + 1) (.loop { rec .ready with state := .exhausted }) = W4 := ⟨_, rfl⟩
      have hk4 : Keeps (NoCells W2) W2 W4 := by rw [← hW4]; exact (Keeps.refl _ W2).putObj (.inl ⟨_, hl, rfl⟩)
      have hkU4 : Keeps U W2 W4 := by rw [← hW4]; exact (Keeps.refl _ W2).putObj (.inl (hU _ (by omega)))
      rw [hW4] at hend
      refine ⟨none, W4, by rw [hrec] at hend; exact hend, hdone w.heap.size W4 (Nat.le_refl _) (hJ N W2 W4 hj hk4) (hu.trans hkU4 (fun _ _ h => h)) ?_⟩
      rw [← hW4]
      exact (World.putObj_heap_other (by omega)).trans hd
end
end Go.Proofs.YtekaoknpjpbjgaaDoor
