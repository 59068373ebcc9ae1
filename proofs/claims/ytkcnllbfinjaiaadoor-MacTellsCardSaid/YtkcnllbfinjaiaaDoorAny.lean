/- A region that asks for its order: an operation that leaves the world may be taken first, as long as nothing that writes can come ahead of it. -/
import Derived.Test.YtkcnllbfinjaiaaDoorTail
import Derived.OrdersHeld
namespace Go.Proofs.YtkcnllbfinjaiaaDoor
open Go.RowKit
section
variable {P : Program} {ops : Array Oper} {Q : Exit → Act → World → Prop} {md : Region.Mode}

/-- None of E has come up. -/
def Yet (E : List Nat) (listed : Array Bool) : Prop := ∀ e ∈ E, listed.getD e false = false
/-- Each operation that has come up waited for none that has not. -/
def Closed (md : Region.Mode) (ops : Array Oper) (listed : Array Bool) : Prop :=
  ∀ j oj, ops[j]? = some oj → listed.getD j false = true → ∀ e ∈ oj.after, Region.binds md e = true → listed.getD e.on false = true

theorem Closed.set {i : Nat} {listed : Array Bool} (h : Closed md ops listed) (hi : i ∈ Region.ready md ops listed) : Closed md ops (listed.setIfInBounds i true) := by
  obtain ⟨_, oi, hoi, hall⟩ := mem_ready.1 hi
  intro j oj hj hl e he hb
  by_cases hij : i = j
  · subst hij
    obtain rfl : oj = oi := Option.some.inj (hj.symm.trans hoi)
    exact getD_set_true (hall e he hb)
  · rw [getD_set_ne false hij] at hl
    exact getD_set_true (h j oj hj hl e he hb)
theorem Closed.none (n : Nat) : Closed md ops (Array.replicate n false) := fun j _ _ hl => by rw [getD_replicate_false] at hl; cases hl

/-- Whatever comes up; while none of E has, the world is of the class C. -/
def anyT (P : Program) (md : Region.Mode) (ops : Array Oper) (Q : Exit → Act → World → Prop) (E : List Nat) (C : World → Prop) : Nat → Array Bool → Act → World → Prop
  | 0, listed, a, w => Region.ready md ops listed = [] ∧ Q .normal a w
  | f + 1, listed, a, w => (Region.ready md ops listed = [] → Q .normal a w) ∧
    ∀ i ∈ Region.ready md ops listed, wpOp P ops Q i (fun a' w' => (Yet E (listed.setIfInBounds i true) → C w') ∧ anyT P md ops Q E C f (listed.setIfInBounds i true) a' w') a w

theorem any_of_T {E : List Nat} {C : World → Prop} (f : Nat) : ∀ (listed : Array Bool) (a : Act) (w : World), anyT P md ops Q E C f listed a w → wpAny P md ops Q f listed a w := by
  induction f with
  | zero => exact fun _ _ _ h => h
  | succ f ih => exact fun listed a w h => ⟨h.1, fun i hi => wpOp_mono (fun a' w' h' => ih _ a' w' h'.2) (h.2 i hi)⟩

theorem yet_set {E : List Nat} {i : Nat} {listed : Array Bool} (hi : i ∉ E) : Yet E (listed.setIfInBounds i true) ↔ Yet E listed := by
  constructor
  · intro h e he
    have := h e he
    rwa [getD_set_ne false (by rintro rfl; exact hi he)] at this
  · intro h e he
    rw [getD_set_ne false (by rintro rfl; exact hi he)]
    exact h e he

/-- It may be taken first. -/
theorem anyT_first {E : List Nat} {C D : World → Prop} {i : Nat} {oi : Oper} {v : Value} (hi : ops[i]? = some oi) (hsel : ∀ (j : Nat) (o : Oper) cs b, ops[j]? = some o → o.op ≠ .select cs b)
    (hQ : ∀ c a w, Q (.panic c) (a.put oi.dst v) w → Q (.panic c) a w) (hE : i ∉ E)
    (hD : (∀ w, D w) ∨ ((∀ w, C w → D w) ∧ ∀ e ∈ E, Region.waitsFor md ops e i = true)) (f : Nat) :
    ∀ (listed : Array Bool) (a : Act) (w : World), Closed md ops listed →
      (∀ j oj, ops[j]? = some oj → j ≠ i → listed.getD j true = false → (∀ e ∈ oj.after, Region.binds md e = true → e.on ≠ i) → oi.apart ops oj = true) →
      i ∈ Region.ready md ops listed → YieldsIf P ops D oi v a → (Yet E listed → C w) →
      anyT P md ops Q E C f (listed.setIfInBounds i true) (a.put oi.dst v) w → anyT P md ops Q E C (f + 1) listed a w := by
  have world : ∀ (listed : Array Bool) (w : World), Closed md ops listed → listed.getD i true = false → (Yet E listed → C w) → D w := by
    intro listed w hcl hun hC
    rcases hD with hD | ⟨hCD, hw⟩
    · exact hD w
    · refine hCD w (hC fun e he => ?_)
      cases hl : listed.getD e false with
      | false => rfl
      | true =>
        obtain ⟨oe, hoe, g, hg, hb, hon⟩ := Region.waitsFor_spec (hw e he)
        have := hcl e oe hoe hl g hg hb
        rw [hon, getD_both hun] at this
        cases this
  induction f with
  | zero =>
    intro listed a w hcl _ hr hy hC H
    have hun := (mem_ready.1 hr).1
    refine ⟨fun h => (by rw [h] at hr; cases hr), fun j hj => ?_⟩
    by_cases hji : j = i
    · subst hji; exact hy.wpOp hi (world _ _ hcl hun hC) ⟨fun h => hC ((yet_set hE).1 h), H⟩
    · have := ready_mono hj hji
      rw [H.1] at this
      cases this
  | succ f ih =>
    intro listed a w hcl hfree hr hy hC H
    have hun := (mem_ready.1 hr).1
    refine ⟨fun h => (by rw [h] at hr; cases hr), fun j hj => ?_⟩
    by_cases hji : j = i
    · subst hji; exact hy.wpOp hi (world _ _ hcl hun hC) ⟨fun h => hC ((yet_set hE).1 h), H⟩
    · obtain ⟨hjun, oj, hoj, hall⟩ := mem_ready.1 hj
      have hnot : ∀ e ∈ oj.after, Region.binds md e = true → e.on ≠ i := fun e he hb heq => by
        have := hall e he hb
        rw [heq, getD_both hun] at this
        cases this
      have h2 := wpOp_putIf hoj (hfree j oj hoj hji hjun hnot) (fun cs b => hsel i oi cs b hi) (fun cs b => hsel j oj cs b hoj) hQ hy (H.2 j (ready_mono hj hji))
      refine wpOp_mono (fun a' w' h3 => ?_) h2
      have hC' : Yet E (listed.setIfInBounds j true) → C w' := fun h => h3.2.1 (by rw [Array.setIfInBounds_comm _ _ (Ne.symm hji)]; exact (yet_set hE).2 h)
      refine ⟨hC', ih (listed.setIfInBounds j true) a' w' (hcl.set hj) (fun k ok hk hki hku hno => ?_) (ready_mono hr (Ne.symm hji)) h3.1 hC' ?_⟩
      · refine hfree k ok hk hki ?_ hno
        by_cases hjk : j = k
        · subst hjk; exact hjun
        · rwa [getD_set_ne true hjk] at hku
      · rw [Array.setIfInBounds_comm _ _ hji]
        exact h3.2.2

def closedB (md : Region.Mode) (ops : Array Oper) (listed : Array Bool) : Bool :=
  (List.range ops.size).all fun j => !listed.getD j false || ((ops[j]?).map (·.after.all fun e => !Region.binds md e || listed.getD e.on false)).getD true
theorem closedB_spec {listed : Array Bool} (h : closedB md ops listed = true) : Closed md ops listed := by
  intro j oj hj hl e he hb
  have h1 := List.all_eq_true.1 h j (List.mem_range.2 (Array.getElem?_eq_some_iff.1 hj).1)
  simp only [hl, hj, Bool.not_true, Bool.false_or, Option.map_some, Option.getD_some] at h1
  have := Array.all_eq_true_iff_forall_mem.1 h1 e he
  simpa [hb] using this

/-- What yields in whatever world is taken first. -/
theorem anyT_take0 {E : List Nat} {C : World → Prop} {i : Nat} {oi : Oper} {v : Value} {f : Nat} {listed : Array Bool} {a : Act} {w : World} (hi : ops[i]? = some oi)
    (hs : Region.noSelect ops = true) (hf : Region.free md ops listed i = true) (hr : (Region.ready md ops listed).contains i = true) (hcl : closedB md ops listed = true) (hE : E.contains i = false)
    (hQ : ∀ c a w, Q (.panic c) (a.put oi.dst v) w → Q (.panic c) a w) (hC : C w) (hy : YieldsIf P ops (fun _ => True) oi v a)
    (h : anyT P md ops Q E C f (listed.setIfInBounds i true) (a.put oi.dst v) w) : anyT P md ops Q E C (f + 1) listed a w :=
  anyT_first (D := fun _ => True) hi (Region.noSelect_spec hs) hQ (by simpa using hE) (.inl fun _ => trivial) f listed a w (closedB_spec hcl) (Region.free_spec hi hf) (by simpa using hr) hy (fun _ => hC) h

/-- What yields in every world of the class, ahead of all of E, is taken first. -/
theorem anyT_takeC {E : List Nat} {C : World → Prop} {i : Nat} {oi : Oper} {v : Value} {f : Nat} {listed : Array Bool} {a : Act} {w : World} (hi : ops[i]? = some oi)
    (hs : Region.noSelect ops = true) (hf : Region.free md ops listed i = true) (hr : (Region.ready md ops listed).contains i = true) (hcl : closedB md ops listed = true) (hE : E.contains i = false)
    (hw : E.all (fun e => Region.waitsFor md ops e i) = true)
    (hQ : ∀ c a w, Q (.panic c) (a.put oi.dst v) w → Q (.panic c) a w) (hC : C w) (hy : YieldsIf P ops C oi v a)
    (h : anyT P md ops Q E C f (listed.setIfInBounds i true) (a.put oi.dst v) w) : anyT P md ops Q E C (f + 1) listed a w :=
  anyT_first (D := C) hi (Region.noSelect_spec hs) hQ (by simpa using hE) (.inr ⟨fun _ h => h, fun e he => List.all_eq_true.1 hw e he⟩) f listed a w (closedB_spec hcl) (Region.free_spec hi hf) (by simpa using hr) hy (fun _ => hC) h

/-- One alone may come up. -/
theorem anyT_force {E : List Nat} {C : World → Prop} {i : Nat} {oi : Oper} {f : Nat} {listed : Array Bool} {a : Act} {w : World} (hi : ops[i]? = some oi)
    (hr : Region.ready md ops listed = [i]) (hw : Region.wanted oi (yielded ops a.tmps) = true)
    (h : oi.wp P a w (fun a' w' => (Yet E (listed.setIfInBounds i true) → C w') ∧ anyT P md ops Q E C f (listed.setIfInBounds i true) a' w') Q) : anyT P md ops Q E C (f + 1) listed a w := by
  refine ⟨fun h0 => (by rw [h0] at hr; cases hr), fun j hj => ?_⟩
  rw [hr] at hj
  obtain rfl : j = i := by simpa using hj
  unfold wpOp
  simp only [hi, hw, if_true]
  exact .inl h

theorem T_of_any {E : List Nat} {C : World → Prop} (f : Nat) : ∀ (listed : Array Bool) (a : Act) (w : World), ¬ Yet E listed → wpAny P md ops Q f listed a w → anyT P md ops Q E C f listed a w := by
  induction f with
  | zero => exact fun _ _ _ _ h => h
  | succ f ih =>
    intro listed a w hy h
    refine ⟨h.1, fun i hi => wpOp_mono (fun a' w' h' => ?_) (h.2 i hi)⟩
    have hn : ¬ Yet E (listed.setIfInBounds i true) := fun hn => hy fun e he => by
      have := hn e he
      cases hl : listed.getD e false with
      | false => rfl
      | true => rw [getD_set_true hl] at this; exact this
    exact ⟨fun x => absurd x hn, ih _ _ _ hn h'⟩

/-- Behind the takes: what is left comes in one forced order, the first of it one of E. -/
theorem anyT_tail {E : List Nat} {C : World → Prop} {k : Nat} {l : List Oper} {f : Nat} {listed : Array Bool} {a : Act} {w : World} (hk : E.contains k = true) (hr : Region.ready md ops listed = [k]) (hkl : k < listed.size)
    (hf : f = l.length) (hl : ops.toList.drop k = l) (hB : Region.seqB md ops l.length k listed = true) (h : wpList P ops Q l a w) : anyT P md ops Q E C f listed a w := by
  have h1 : wpAny P md ops Q f listed a w := by
    rw [hf]
    refine wpAny_of_seq l k listed a w (fun j => ?_) hB h
    rw [← hl, List.getElem?_drop]
    simp
  cases f with
  | zero => exact h1
  | succ f =>
    refine ⟨h1.1, fun i hi => wpOp_mono (fun a' w' h' => ?_) (h1.2 i hi)⟩
    rw [hr] at hi
    obtain rfl : i = k := by simpa using hi
    have hn : ¬ Yet E (listed.setIfInBounds i true) := fun hn => by
      have := hn i (by simpa using hk)
      simp [hkl] at this
    exact ⟨fun x => absurd x hn, T_of_any f _ _ _ hn h'⟩

theorem region_T {id : Nat} {a : Act} {w : World} {l : List Oper} (E : List Nat) (C : World → Prop) (hm : P.follows .mixedOrders = true)
    (h : anyT P .any l.toArray Q E C l.length (Array.replicate l.length false) a w.drew) : (Code.region id l.toArray true).wp P Q a w :=
  wp_region_any hm (any_of_T _ _ _ _ (by simpa using h))

/-- Behind one of E another class may be chosen. -/
theorem anyT_restart {E : List Nat} {C : World → Prop} (E' : List Nat) (C' : World → Prop) {f : Nat} {listed : Array Bool} {a : Act} {w : World} (hy : ∃ e, E.contains e = true ∧ listed.getD e false = true)
    (h : anyT P md ops Q E' C' f listed a w) : anyT P md ops Q E C f listed a w := by
  obtain ⟨e, he, hl⟩ := hy
  refine T_of_any _ _ _ _ (fun hn => ?_) (any_of_T _ _ _ _ h)
  have := hn e (by simpa using he)
  rw [hl] at this
  cases this
theorem anyT_done {E : List Nat} {C : World → Prop} {listed : Array Bool} {a : Act} {w : World} (hr : Region.ready md ops listed = []) (h : Q .normal a w) : anyT P md ops Q E C 0 listed a w := ⟨hr, h⟩

end
end Go.Proofs.YtkcnllbfinjaiaaDoor
