/- Words, walks and plain laws that the claim leans on, part 7. -/
import Derived.Test.YtekaoknpjpbjgaaDoorM6
import Derived.OrdersHeld

/-! A region that asks for its order: an operation that leaves the world may be taken first, as long as nothing that writes can come ahead of it. -/
namespace Go.Proofs.YtekaoknpjpbjgaaDoor
set_option linter.unusedVariables false
set_option linter.unusedSimpArgs false
open Go.RowKit
section
variable {P : Program} {ops : Array Oper} {Q : Exit → Act → World → Prop} {md : Region.Mode}

/-- None of E has come up. -/
def Yet (E : List Nat) (listed : Array Bool) : Prop := ∀ e ∈ E, listed.getD e false = false
/-- Each operation that has come up waited for none that has not. -/
def Closed (md : Region.Mode) (ops : Array Oper) (listed : Array Bool) : Prop :=
  ∀ j oj, ops[j]? = some oj → listed.getD j false = true → ∀ e ∈ oj.after, Region.binds md e = true → listed.getD e.on false = true

theorem Closed.set {i : Nat} {listed : Array Bool} (h : Closed md ops listed) (hi : i ∈ Region.ready md ops listed) : Closed md ops (listed.setIfInBounds i true) := by
  obtain ⟨_, oi, hoi, hall⟩ := mem_ready.1 hi
  intro j oj hj hl e he hb
  by_cases hij : i = j
  · subst hij
    obtain rfl : oj = oi := Option.some.inj (hj.symm.trans hoi)
    exact getD_set_true (hall e he hb)
  · rw [getD_set_ne false hij] at hl
    exact getD_set_true (h j oj hj hl e he hb)
theorem Closed.none (n : Nat) : Closed md ops (Array.replicate n false) := fun j _ _ hl => by rw [getD_replicate_false] at hl; cases hl

/-- Whatever comes up; while none of E has, the world is of the class C. -/
def anyT (P : Program) (md : Region.Mode) (ops : Array Oper) (Q : Exit → Act → World → Prop) (E : List Nat) (C : World → Prop) : Nat → Array Bool → Act → World → Prop
  | 0, listed, a, w => Region.ready md ops listed = [] ∧ Q .normal a w
  | f + 1, listed, a, w => (Region.ready md ops listed = [] → Q .normal a w) ∧
    ∀ i ∈ Region.ready md ops listed, wpOp P ops Q i (fun a' w' => (Yet E (listed.setIfInBounds i true) → C w') ∧ anyT P md ops Q E C f (listed.setIfInBounds i true) a' w') a w

theorem any_of_T {E : List Nat} {C : World → Prop} (f : Nat) : ∀ (listed : Array Bool) (a : Act) (w : World), anyT P md ops Q E C f listed a w → wpAny P md ops Q f listed a w := by
  induction f with
  | zero => exact fun _ _ _ h => h
  | succ f ih => exact fun listed a w h => ⟨h.1, fun i hi => wpOp_mono (fun a' w' h' => ih _ a' w' h'.2) (h.2 i hi)⟩

theorem yet_set {E : List Nat} {i : Nat} {listed : Array Bool} (hi : i ∉ E) : Yet E (listed.setIfInBounds i true) ↔ Yet E listed := by
  constructor
  · intro h e he
    have := h e he
    rwa [getD_set_ne false (by rintro rfl; exact hi he)] at this
  · intro h e he
    rw [getD_set_ne false (by rintro rfl; exact hi he)]
    exact h e he

/-- It may be taken first. -/
theorem anyT_first {E : List Nat} {C D : World → Prop} {i : Nat} {oi : Oper} {v : Value} (hi : ops[i]? = some oi) (hsel : ∀ (j : Nat) (o : Oper) cs b, ops[j]? = some o → o.op ≠ .select cs b)
    (hQ : ∀ c a w, Q (.panic c) (a.put oi.dst v) w → Q (.panic c) a w) (hE : i ∉ E)
    (hD : (∀ w, D w) ∨ ((∀ w, C w → D w) ∧ ∀ e ∈ E, Region.waitsFor md ops e i = true)) (f : Nat) :
    ∀ (listed : Array Bool) (a : Act) (w : World), Closed md ops listed →
      (∀ j oj, ops[j]? = some oj → j ≠ i → listed.getD j true = false → (∀ e ∈ oj.after, Region.binds md e = true → e.on ≠ i) → oi.apart ops oj = true) →
      i ∈ Region.ready md ops listed → YieldsIf P ops D oi v a → (Yet E listed → C w) →
      anyT P md ops Q E C f (listed.setIfInBounds i true) (a.put oi.dst v) w → anyT P md ops Q E C (f + 1) listed a w := by
  have world : ∀ (listed : Array Bool) (w : World), Closed md ops listed → listed.getD i true = false → (Yet E listed → C w) → D w := by
    intro listed w hcl hun hC
    rcases hD with hD | ⟨hCD, hw⟩
    · exact hD w
    · refine hCD w (hC fun e he => ?_)
      cases hl : listed.getD e false with
      | false => rfl
      | true =>
        obtain ⟨oe, hoe, g, hg, hb, hon⟩ := Region.waitsFor_spec (hw e he)
        have := hcl e oe hoe hl g hg hb
        rw [hon, getD_both hun] at this
        cases this
  induction f with
  | zero =>
    intro listed a w hcl _ hr hy hC H
    have hun := (mem_ready.1 hr).1
    refine ⟨fun h => (by rw [h] at hr; cases hr), fun j hj => ?_⟩
    by_cases hji : j = i
    · subst hji; exact hy.wpOp hi (world _ _ hcl hun hC) ⟨fun h => hC ((yet_set hE).1 h), H⟩
    · have := ready_mono hj hji
      rw [H.1] at this
      cases this
  | succ f ih =>
    intro listed a w hcl hfree hr hy hC H
    have hun := (mem_ready.1 hr).1
    refine ⟨fun h => (by rw [h] at hr; cases hr), fun j hj => ?_⟩
    by_cases hji : j = i
    · subst hji; exact hy.wpOp hi (world _ _ hcl hun hC) ⟨fun h => hC ((yet_set hE).1 h), H⟩
    · obtain ⟨hjun, oj, hoj, hall⟩ := mem_ready.1 hj
      have hnot : ∀ e ∈ oj.after, Region.binds md e = true → e.on ≠ i := fun e he hb heq => by
        have := hall e he hb
        rw [heq, getD_both hun] at this
        cases this
      have h2 := wpOp_putIf hoj (hfree j oj hoj hji hjun hnot) (fun cs b => hsel i oi cs b hi) (fun cs b => hsel j oj cs b hoj) hQ hy (H.2 j (ready_mono hj hji))
      refine wpOp_mono (fun a' w' h3 => ?_) h2
      have hC' : Yet E (listed.setIfInBounds j true) → C w' := fun h => h3.2.1 (by rw [Array.setIfInBounds_comm _ _ (Ne.symm hji)]; exact (yet_set hE).2 h)
      refine ⟨hC', ih (listed.setIfInBounds j true) a' w' (hcl.set hj) (fun k ok hk hki hku hno => ?_) (ready_mono hr (Ne.symm hji)) h3.1 hC' ?_⟩
      · refine hfree k ok hk hki ?_ hno
        by_cases hjk : j = k
        · subst hjk; exact hjun
        · rwa [getD_set_ne true hjk] at hku
      · rw [Array.setIfInBounds_comm _ _ hji]
        exact h3.2.2

def closedB (md : Region.Mode) (ops : Array Oper) (listed : Array Bool) : Bool :=
  (List.range ops.size).all fun j => !listed.getD j false || ((ops[j]?).map (·.after.all fun e => !Region.binds md e || listed.getD e.on false)).getD true
theorem closedB_spec {listed : Array Bool} (h : closedB md ops listed = true) : Closed md ops listed := by
  intro j oj hj hl e he hb
  have h1 := List.all_eq_true.1 h j (List.mem_range.2 (Array.getElem?_eq_some_iff.1 hj).1)
  simp only [hl, hj, Bool.not_true, Bool.false_or, Option.map_some, Option.getD_some] at h1
  have := Array.all_eq_true_iff_forall_mem.1 h1 e he
  simpa [hb] using this

/-- What yields in whatever world is taken first. -/
theorem anyT_take0 {E : List Nat} {C : World → Prop} {i : Nat} {oi : Oper} {v : Value} {f : Nat} {listed : Array Bool} {a : Act} {w : World} (hi : ops[i]? = some oi)
    (hs : Region.noSelect ops = true) (hf : Region.free md ops listed i = true) (hr : (Region.ready md ops listed).contains i = true) (hcl : closedB md ops listed = true) (hE : E.contains i = false)
    (hQ : ∀ c a w, Q (.panic c) (a.put oi.dst v) w → Q (.panic c) a w) (hC : C w) (hy : YieldsIf P ops (fun _ => True) oi v a)
    (h : anyT P md ops Q E C f (listed.setIfInBounds i true) (a.put oi.dst v) w) : anyT P md ops Q E C (f + 1) listed a w :=
  anyT_first (D := fun _ => True) hi (Region.noSelect_spec hs) hQ (by simpa using hE) (.inl fun _ => trivial) f listed a w (closedB_spec hcl) (Region.free_spec hi hf) (by simpa using hr) hy (fun _ => hC) h

/-- What yields in every world of the class, ahead of all of E, is taken first. -/
theorem anyT_takeC {E : List Nat} {C : World → Prop} {i : Nat} {oi : Oper} {v : Value} {f : Nat} {listed : Array Bool} {a : Act} {w : World} (hi : ops[i]? = some oi)
    (hs : Region.noSelect ops = true) (hf : Region.free md ops listed i = true) (hr : (Region.ready md ops listed).contains i = true) (hcl : closedB md ops listed = true) (hE : E.contains i = false)
    (hw : E.all (fun e => Region.waitsFor md ops e i) = true)
    (hQ : ∀ c a w, Q (.panic c) (a.put oi.dst v) w → Q (.panic c) a w) (hC : C w) (hy : YieldsIf P ops C oi v a)
    (h : anyT P md ops Q E C f (listed.setIfInBounds i true) (a.put oi.dst v) w) : anyT P md ops Q E C (f + 1) listed a w :=
  anyT_first (D := C) hi (Region.noSelect_spec hs) hQ (by simpa using hE) (.inr ⟨fun _ h => h, fun e he => List.all_eq_true.1 hw e he⟩) f listed a w (closedB_spec hcl) (Region.free_spec hi hf) (by simpa using hr) hy (fun _ => hC) h

/-- One alone may come up. -/
theorem anyT_force {E : List Nat} {C : World → Prop} {i : Nat} {oi : Oper} {f : Nat} {listed : Array Bool} {a : Act} {w : World} (hi : ops[i]? = some oi)
    (hr : Region.ready md ops listed = [i]) (hw : Region.wanted oi (yielded ops a.tmps) = true)
    (h : oi.wp P a w (fun a' w' => (Yet E (listed.setIfInBounds i true) → C w') ∧ anyT P md ops Q E C f (listed.setIfInBounds i true) a' w') Q) : anyT P md ops Q E C (f + 1) listed a w := by
  refine ⟨fun h0 => (by rw [h0] at hr; cases hr), fun j hj => ?_⟩
  rw [hr] at hj
  obtain rfl : j = i := by simpa using hj
  unfold wpOp
  simp only [hi, hw, if_true]
  exact .inl h

theorem T_of_any {E : List Nat} {C : World → Prop} (f : Nat) : ∀ (listed : Array Bool) (a : Act) (w : World), ¬ Yet E listed → wpAny P md ops Q f listed a w → anyT P md ops Q E C f listed a w := by
  induction f with
  | zero => exact fun _ _ _ _ h => h
  | succ f ih =>
    intro listed a w hy h
    refine ⟨h.1, fun i hi => wpOp_mono (fun a' w' h' => ?_) (h.2 i hi)⟩
    have hn : ¬ Yet E (listed.setIfInBounds i true) := fun hn => hy fun e he => by
      have := hn e he
      cases hl : listed.getD e false with
      | false => rfl
      | true => rw [getD_set_true hl] at this; exact this
    exact ⟨fun x => absurd x hn, ih _ _ _ hn h'⟩

/-- Behind the takes: what is left comes in one forced order, the first of it one of E. -/
theorem anyT_tail {E : List Nat} {C : World → Prop} {k : Nat} {l : List Oper} {f : Nat} {listed : Array Bool} {a : Act} {w : World} (hk : E.contains k = true) (hr : Region.ready md ops listed = [k]) (hkl : k < listed.size)
    (hf : f = l.length) (hl : ops.toList.drop k = l) (hB : Region.seqB md ops l.length k listed = true) (h : wpList P ops Q l a w) : anyT P md ops Q E C f listed a w := by
  have h1 : wpAny P md ops Q f listed a w := by
    rw [hf]
    refine wpAny_of_seq l k listed a w (fun j => ?_) hB h
    rw [← hl, List.getElem?_drop]
    simp
  cases f with
  | zero => exact h1
  | succ f =>
    refine ⟨h1.1, fun i hi => wpOp_mono (fun a' w' h' => ?_) (h1.2 i hi)⟩
    rw [hr] at hi
    obtain rfl : i = k := by simpa using hi
    have hn : ¬ Yet E (listed.setIfInBounds i true) := fun hn => by
      have := hn i (by simpa using hk)
      simp [hkl] at this
    exact ⟨fun x => absurd x hn, T_of_any f _ _ _ hn h'⟩

theorem region_T {id : Nat} {a : Act} {w : World} {l : List Oper} (E : List Nat) (C : World → Prop) (hm : P.follows .mixedOrders = true)
    (h : anyT P .any l.toArray Q E C l.length (Array.replicate l.length false) a w.drew) : (Code.region id l.toArray true).wp P Q a w :=
  wp_region_any hm (any_of_T _ _ _ _ (by simpa using h))

/-- Behind one of E another class may be chosen. -/
theorem anyT_restart {E : List Nat} {C : World → Prop} (E' : List Nat) (C' : World → Prop) {f : Nat} {listed : Array Bool} {a : Act} {w : World} (hy : ∃ e, E.contains e = true ∧ listed.getD e false = true)
    (h : anyT P md ops Q E' C' f listed a w) : anyT P md ops Q E C f listed a w := by
  obtain ⟨e, he, hl⟩ := hy
  refine T_of_any _ _ _ _ (fun hn => ?_) (any_of_T _ _ _ _ h)
  have := hn e (by simpa using he)
  rw [hl] at this
  cases this
theorem anyT_done {E : List Nat} {C : World → Prop} {listed : Array Bool} {a : Act} {w : World} (hr : Region.ready md ops listed = []) (h : Q .normal a w) : anyT P md ops Q E C 0 listed a w := ⟨hr, h⟩

end
end Go.Proofs.YtekaoknpjpbjgaaDoor

/-! A region that asks for its order and makes memory in it: what each operation leaves is told by a word that stays true while old blocks stay; one walk in the order of the text serves every order. -/
namespace Go.Proofs.YtekaoknpjpbjgaaDoor
set_option linter.unusedVariables false
set_option linter.unusedSimpArgs false
open Go.RowKit
section
variable {P : Program} {ops : Array Oper} {Q : Exit → Act → World → Prop} {md : Region.Mode}

/-- Ends normally, so. -/
def Fin (X : Act → World → Prop) : Exit → Act → World → Prop
  | .normal, a, w => X a w
  | _, _, _ => False
theorem Fin.lets {X : Act → World → Prop} : ¬ LetsOut (Fin X) := fun ⟨_, _, h⟩ => h

def dstOf (ops : Array Oper) (j : Nat) : Option Tmp := (ops[j]?).bind (·.dst)

theorem put_same {a b : Act} (hs : a.tmps.size = b.tmps.size) (dst : Option Tmp) (u u' : Value) (h : b.put dst u = b.put dst u') : a.put dst u = a.put dst u' := by
  cases dst with
  | none => rfl
  | some d =>
    simp only [Act.put] at h ⊢
    have h1 : b.tmps.setIfInBounds d u = b.tmps.setIfInBounds d u' := congrArg Act.tmps h
    by_cases hd : d < b.tmps.size
    · have : (b.tmps.setIfInBounds d u)[d]? = (b.tmps.setIfInBounds d u')[d]? := by rw [h1]
      simp [hd] at this
      rw [this]
    · have hle : a.tmps.size ≤ d := by rw [hs]; exact Nat.not_lt.1 hd
      rw [Array.setIfInBounds_eq_of_size_le hle, Array.setIfInBounds_eq_of_size_le hle]

theorem eval_looks {a b : Act} {o : Oper} (hag : ∀ t ∈ o.looksAt ops, a.tmps[t]? = b.tmps[t]?) : ∀ x ∈ o.op.operands, a.eval x = b.eval x := by
  intro x hx
  cases x with
  | tmp t =>
    have ht : t ∈ o.looksAt ops := List.mem_append_left _ (List.mem_filterMap.2 ⟨.tmp t, by simpa using hx, rfl⟩)
    simp only [Act.eval, Array.getD_eq_getD_getElem?, hag t ht]
  | const v => rfl
  | global g => rfl
  | func f => rfl

theorem wanted_looks {a b : Act} {o : Oper} (hag : ∀ t ∈ o.looksAt ops, a.tmps[t]? = b.tmps[t]?) : Region.wanted o (yielded ops a.tmps) = Region.wanted o (yielded ops b.tmps) := by
  unfold Region.wanted
  cases hg : o.guard with
  | none => rfl
  | some gw =>
    obtain ⟨g, wv⟩ := gw
    have : yielded ops a.tmps g = yielded ops b.tmps g := by
      unfold yielded
      cases hd : (ops[g]?).bind (·.dst) with
      | none => rfl
      | some d =>
        have ht : d ∈ o.looksAt ops := by
          unfold Oper.looksAt
          rw [hg]
          exact List.mem_append_right _ (by simp [hd])
        simp only [Option.bind_some, hag d ht]
    simp only [this]

theorem wpOp_of_list {i : Nat} {oi : Oper} {a b : Act} {w : World} {X : Value → World → Prop} (hi : ops[i]? = some oi) (hsel : ∀ cs b, oi.op ≠ .select cs b)
    (hag : ∀ t ∈ oi.looksAt ops, a.tmps[t]? = b.tmps[t]?) (hs : a.tmps.size = b.tmps.size)
    (h : wpList P ops (Fin fun a' w' => ∃ u, a' = b.put oi.dst u ∧ X u w') [oi] b w) : wpOp P ops Q i (fun a' w' => ∃ u, a' = a.put oi.dst u ∧ X u w') a w := by
  have he : execOp a.eval oi = execOp b.eval oi := execOp_congr oi hsel (eval_looks hag)
  have go : ∀ u w', (∃ u', b.put oi.dst u = b.put oi.dst u' ∧ X u' w') → ∃ u', a.put oi.dst u = a.put oi.dst u' ∧ X u' w' := fun u w' ⟨u', h1, h2⟩ => ⟨u', put_same hs _ _ _ h1, h2⟩
  unfold wpOp
  simp only [hi, wanted_looks hag]
  unfold wpList at h
  split
  · rename_i hw
    rw [if_pos hw] at h
    rcases h with h | ⟨_, h⟩
    case inr => exact absurd h Fin.lets
    refine .inl ?_
    unfold Oper.wp at *
    rw [he]
    generalize (execOp b.eval oi).run P w = r at *
    cases r with
    | ok n w' =>
      cases n <;> simp only [Oper.upon] at h ⊢
      case value u => exact go u w' h
      case skip => exact go _ w' h
      case defer d =>
        obtain ⟨u, h1, h2⟩ := h
        have h3 := congrArg Act.defers h1
        have e1 : ∀ (c : Act) (v : Value), (c.put oi.dst v).defers = c.defers := fun c v => by
          cases oi.dst <;> rfl
        rw [e1, e1] at h3
        have := congrArg List.length h3
        simp at this
      case enter f args =>
        refine Calls.mono h fun e w'' he => ?_
        cases e with
        | returned u => exact go u w'' he
        | panicked c => exact he.elim
        | outgrown => exact absurd he Fin.lets
      case row row args => exact Rows.mono h fun u w'' he => go u w'' he
    | halt x w' =>
      cases x <;> simp only [Oper.upon] at h ⊢
      case panic u => exact h.elim
  · rename_i hw
    rw [if_neg hw] at h
    exact go _ w h

/-- The state behind these operations, one behind the other. -/
def lexL (ops : Array Oper) (v : Nat → Value) (a : Act) : List Nat → Act
  | [] => a
  | j :: r => lexL ops v (a.put (dstOf ops j) (v j)) r

theorem put_size (a : Act) (d : Option Tmp) (v : Value) : (a.put d v).tmps.size = a.tmps.size := by cases d <;> simp [Act.put]
theorem put_defers (a : Act) (d : Option Tmp) (v : Value) : (a.put d v).defers = a.defers := by cases d <;> rfl
theorem put_other {a : Act} {d : Option Tmp} {v : Value} {t : Nat} (h : d ≠ some t) : (a.put d v).tmps[t]? = a.tmps[t]? := by
  cases d with
  | none => rfl
  | some d =>
    have : d ≠ t := fun e => h (by rw [e])
    simp [Act.put, Array.getElem?_setIfInBounds_ne this]
theorem put_at {a : Act} {d : Tmp} {v : Value} (h : d < a.tmps.size) : (a.put (some d) v).tmps[d]? = some v := by simp [Act.put, h]

theorem lexL_size (v : Nat → Value) : ∀ (l : List Nat) (a : Act), (lexL ops v a l).tmps.size = a.tmps.size
  | [], _ => rfl
  | j :: r, a => (lexL_size v r _).trans (put_size _ _ _)
theorem lexL_defers (v : Nat → Value) : ∀ (l : List Nat) (a : Act), (lexL ops v a l).defers = a.defers
  | [], _ => rfl
  | j :: r, a => (lexL_defers v r _).trans (put_defers _ _ _)
theorem lexL_other (v : Nat → Value) (t : Nat) : ∀ (l : List Nat) (a : Act), (∀ j ∈ l, dstOf ops j ≠ some t) → (lexL ops v a l).tmps[t]? = a.tmps[t]?
  | [], _, _ => rfl
  | j :: r, a, h => (lexL_other v t r _ fun k hk => h k (List.mem_cons_of_mem _ hk)).trans (put_other (h j List.mem_cons_self))
theorem lexL_at (v : Nat → Value) : ∀ (l : List Nat) (a : Act) (j : Nat) (d : Tmp), l.Nodup → (∀ x ∈ l, ∀ y ∈ l, x ≠ y → dstOf ops x ≠ none → dstOf ops x ≠ dstOf ops y) → j ∈ l → dstOf ops j = some d → d < a.tmps.size →
    (lexL ops v a l).tmps[d]? = some (v j)
  | [], _, _, _, _, _, hj, _, _ => by cases hj
  | k :: r, a, j, d, hn, hu, hj, hd, hlt => by
    rcases List.mem_cons.1 hj with rfl | hj
    · refine (lexL_other v d r _ fun y hy e => hu j List.mem_cons_self y (List.mem_cons_of_mem _ hy) (fun h => (List.nodup_cons.1 hn).1 (h ▸ hy)) (by rw [hd]; simp) (hd.trans e.symm)).trans ?_
      rw [hd]
      exact put_at hlt
    · exact lexL_at v r _ j d (List.nodup_cons.1 hn).2 (fun x hx y hy => hu x (List.mem_cons_of_mem _ hx) y (List.mem_cons_of_mem _ hy)) hj hd (by rw [put_size]; exact hlt)

/-- What is asked: operation by operation in the order of the text. -/
def ParGoal (P : Program) (md : Region.Mode) (ops : Array Oper) (Q : Exit → Act → World → Prop) (R : Nat → Value → World → Prop) (w0 : World) : List Nat → Act → List (Nat × Value) → Prop
  | [], a, known => ∀ w', Keeps (fun _ => False) w0 w' → (∀ p ∈ known, R p.1 p.2 w') → Q .normal a w'
  | i :: r, a, known => ∃ oi, ops[i]? = some oi ∧
      (∀ w', Keeps (fun _ => False) w0 w' → (∀ p ∈ known, Region.waitsFor md ops i p.1 = true → R p.1 p.2 w') →
        wpList P ops (Fin fun a' w'' => ∃ u, a' = a.put oi.dst u ∧ R i u w'' ∧ Keeps (fun _ => False) w' w'') [oi] a w') ∧
      ∀ u, ParGoal P md ops Q R w0 r (a.put (dstOf ops i) u) (known ++ [(i, u)])

theorem ParGoal.final {R : Nat → Value → World → Prop} {w0 : World} (v : Nat → Value) : ∀ (l : List Nat) (a : Act) (known : List (Nat × Value)), ParGoal P md ops Q R w0 l a known → ∀ w, Keeps (fun _ => False) w0 w → (∀ p ∈ known, R p.1 p.2 w) → (∀ j ∈ l, R j (v j) w) → Q .normal (lexL ops v a l) w
  | [], _, _, h, w, hk, hR, _ => h w hk hR
  | i :: r, a, known, ⟨_, _, _, h⟩, w, hk, hR, hl => ParGoal.final v r _ _ (h (v i)) w hk (fun p hp => by
      rcases List.mem_append.1 hp with hp | hp
      · exact hR p hp
      · rw [List.mem_singleton.1 hp]
        exact hl i List.mem_cons_self) (fun j hj => hl j (List.mem_cons_of_mem _ hj))

theorem ParGoal.at {R : Nat → Value → World → Prop} {w0 : World} (v : Nat → Value) (i : Nat) : ∀ (l : List Nat) (a : Act) (known : List (Nat × Value)), ParGoal P md ops Q R w0 l a known → i ∈ l →
    ∃ pre post oi, l = pre ++ i :: post ∧ ops[i]? = some oi ∧ ∀ w', Keeps (fun _ => False) w0 w' → (∀ p ∈ known, Region.waitsFor md ops i p.1 = true → R p.1 p.2 w') → (∀ j ∈ pre, Region.waitsFor md ops i j = true → R j (v j) w') →
      wpList P ops (Fin fun a' w'' => ∃ u, a' = (lexL ops v a pre).put oi.dst u ∧ R i u w'' ∧ Keeps (fun _ => False) w' w'') [oi] (lexL ops v a pre) w'
  | [], _, _, _, hi => by cases hi
  | k :: r, a, known, ⟨ok, ho, h1, h2⟩, hi => by
    by_cases hki : i = k
    · subst hki
      exact ⟨[], r, ok, rfl, ho, fun w' hk hR _ => h1 w' hk hR⟩
    · have hi' : i ∈ r := (List.mem_cons.1 hi).resolve_left hki
      obtain ⟨pre, post, oi, e, hoi, h⟩ := ParGoal.at v i r _ _ (h2 (v k)) hi'
      refine ⟨k :: pre, post, oi, by rw [e]; rfl, hoi, fun w' hk hR hp => h w' hk (fun p hp' hw => ?_) (fun j hj => hp j (List.mem_cons_of_mem _ hj))⟩
      rcases List.mem_append.1 hp' with hp' | hp'
      · exact hR p hp' hw
      · rw [List.mem_singleton.1 hp'] at hw ⊢
        exact hp k List.mem_cons_self hw

/-- The operations that have not come up. -/
def todoOf (ops : Array Oper) (L : Array Bool) : List Nat := (List.range ops.size).filter fun j => !L.getD j true
def parB (md : Region.Mode) (ops : Array Oper) (L : Array Bool) (n : Nat) : Bool :=
  Region.noSelect ops && closedB md ops L && (L.size == ops.size) &&
  ((List.range ops.size).all fun i => ((ops[i]?).map fun o => o.after.all fun e => !Region.binds md e || decide (e.on < i)).getD false) &&
  ((todoOf ops L).all fun j => (match dstOf ops j with | some d => decide (d < n) | none => true) &&
    ((todoOf ops L).all fun k => (j == k) || (dstOf ops j == none) || (dstOf ops j != dstOf ops k)) &&
    ((ops[j]?).map fun o => (o.looksAt ops).all fun t => (todoOf ops L).all fun k => (dstOf ops k != some t) || (Region.waitsFor md ops j k && decide (k < j))).getD false)

structure ParInv (md : Region.Mode) (ops : Array Oper) (R : Nat → Value → World → Prop) (L0 : Array Bool) (a0 : Act) (w0 : World) (listed : Array Bool) (a : Act) (w : World) : Prop where
  size : listed.size = ops.size
  closed : Closed md ops listed
  defers : a.defers = a0.defers
  tsize : a.tmps.size = a0.tmps.size
  grown : ∀ j, L0.getD j true = true → listed.getD j true = true
  other : ∀ t, (∀ j, j ∈ todoOf ops L0 → listed.getD j true = true → dstOf ops j ≠ some t) → a.tmps[t]? = a0.tmps[t]?
  rel : ∀ j, j ∈ todoOf ops L0 → listed.getD j true = true → ∃ u, (∀ d, dstOf ops j = some d → a.tmps[d]? = some u) ∧ R j u w
  keep : Keeps (fun _ => False) w0 w

theorem mem_todo {L : Array Bool} {j : Nat} : j ∈ todoOf ops L ↔ j < ops.size ∧ L.getD j true = false := by
  simp [todoOf]
theorem todo_nodup (L : Array Bool) : (todoOf ops L).Nodup := List.Pairwise.filter _ List.nodup_range

/-- The check, read. -/
structure ParOk (md : Region.Mode) (ops : Array Oper) (L : Array Bool) (n : Nat) : Prop where
  sel : ∀ (j : Nat) (o : Oper) cs b, ops[j]? = some o → o.op ≠ .select cs b
  closed : Closed md ops L
  size : L.size = ops.size
  less : ∀ (i : Nat) (o : Oper), ops[i]? = some o → ∀ e ∈ o.after, Region.binds md e = true → e.on < i
  range : ∀ j ∈ todoOf ops L, ∀ d, dstOf ops j = some d → d < n
  apart : ∀ j ∈ todoOf ops L, ∀ k ∈ todoOf ops L, j ≠ k → dstOf ops j ≠ none → dstOf ops j ≠ dstOf ops k
  looks : ∀ j ∈ todoOf ops L, ∀ o : Oper, ops[j]? = some o → ∀ t ∈ o.looksAt ops, ∀ k ∈ todoOf ops L, dstOf ops k = some t → Region.waitsFor md ops j k = true ∧ k < j

theorem parOk {L : Array Bool} {n : Nat} (h : parB md ops L n = true) : ParOk md ops L n := by
  unfold parB at h
  simp only [Bool.and_eq_true] at h
  obtain ⟨⟨⟨⟨h1, h2⟩, h3⟩, h4⟩, h5⟩ := h
  have h5' := List.all_eq_true.1 h5
  refine ⟨Region.noSelect_spec h1, closedB_spec h2, by simpa using h3, fun i o hi e he hb => ?_, fun j hj d hd => ?_, fun j hj k hk hjk hn e => ?_, fun j hj o ho t ht k hk hkt => ?_⟩
  · have := List.all_eq_true.1 h4 i (List.mem_range.2 (Array.getElem?_eq_some_iff.1 hi).1)
    simp only [hi, Option.map_some, Option.getD_some] at this
    have h6 := Array.all_eq_true_iff_forall_mem.1 this e he
    simpa [hb] using h6
  · have := h5' j hj
    simp only [Bool.and_eq_true] at this
    have h6 := this.1.1
    rw [hd] at h6
    simpa using h6
  · have := h5' j hj
    simp only [Bool.and_eq_true] at this
    have h6 := List.all_eq_true.1 this.1.2 k hk
    simp only [Bool.or_eq_true, beq_iff_eq, bne_iff_ne, ne_eq] at h6
    rcases h6 with (h6 | h6) | h6
    · exact hjk h6
    · exact hn h6
    · exact h6 e
  · have := h5' j hj
    simp only [Bool.and_eq_true] at this
    have h6 := this.2
    simp only [ho, Option.map_some, Option.getD_some] at h6
    have h7 := List.all_eq_true.1 (List.all_eq_true.1 h6 t ht) k hk
    simp only [Bool.or_eq_true, bne_iff_ne, ne_eq, Bool.and_eq_true, decide_eq_true_eq] at h7
    exact h7.resolve_left fun h => h hkt

theorem par_step {R : Nat → Value → World → Prop} (hR : ∀ j v w w', R j v w → Keeps (fun _ => False) w w' → R j v w') {L0 : Array Bool} {n : Nat} {a0 : Act} {w0 : World} (ok : ParOk md ops L0 n) (hn : a0.tmps.size = n)
    (goal : ParGoal P md ops Q R w0 (todoOf ops L0) a0 []) {listed : Array Bool} {a : Act} {w : World} (inv : ParInv md ops R L0 a0 w0 listed a w) {i : Nat} (hi : i ∈ Region.ready md ops listed) :
    wpOp P ops Q i (fun a' w' => ParInv md ops R L0 a0 w0 (listed.setIfInBounds i true) a' w') a w := by
  obtain ⟨hun, oi, hoi, hall⟩ := mem_ready.1 hi
  have hlt : i < ops.size := (Array.getElem?_eq_some_iff.1 hoi).1
  have hti : i ∈ todoOf ops L0 := mem_todo.2 ⟨hlt, by
    cases h : L0.getD i true with
    | false => rfl
    | true => rw [inv.grown i h] at hun; cases hun⟩
  have hdi : dstOf ops i = oi.dst := by unfold dstOf; rw [hoi]; rfl
  have hls : ∀ j, j < ops.size → listed.getD j false = listed.getD j true := fun j hj => by
    have : j < listed.size := by rw [inv.size]; exact hj
    simp [this]
  obtain ⟨v, hv⟩ := Classical.axiomOfChoice (fun j => (show ∃ u, j ∈ todoOf ops L0 → listed.getD j true = true → (∀ d, dstOf ops j = some d → a.tmps[d]? = some u) ∧ R j u w from by
    by_cases h1 : j ∈ todoOf ops L0 ∧ listed.getD j true = true
    · obtain ⟨u, hu⟩ := inv.rel j h1.1 h1.2
      exact ⟨u, fun _ _ => hu⟩
    · exact ⟨undef, fun h2 h3 => absurd ⟨h2, h3⟩ h1⟩))
  obtain ⟨pre, post, oi', el, hoi', hstep⟩ := goal.at v i _ _ _ hti
  obtain rfl : oi' = oi := Option.some.inj (hoi'.symm.trans hoi)
  have hpre : ∀ j ∈ pre, j ∈ todoOf ops L0 := fun j hj => by rw [el]; exact List.mem_append_left _ hj
  have hnd := todo_nodup (ops := ops) L0
  rw [el] at hnd
  have hndp : pre.Nodup := (List.nodup_append.1 hnd).1
  have hwait : ∀ j, j ∈ todoOf ops L0 → Region.waitsFor md ops i j = true → listed.getD j true = true := fun j hj hw => by
    obtain ⟨o, ho, e, he, hb, hon⟩ := Region.waitsFor_spec hw
    obtain rfl : o = oi' := Option.some.inj (ho.symm.trans hoi)
    rw [← hls j (mem_todo.1 hj).1, ← hon]
    exact hall e he hb
  have hex : ∀ j ∈ pre, Region.waitsFor md ops i j = true → R j (v j) w := fun j hj hw => (hv j (hpre j hj) (hwait j (hpre j hj) hw)).2
  · have h1 := hstep w inv.keep (fun p hp => by cases hp) hex
    have hag : ∀ t ∈ oi'.looksAt ops, a.tmps[t]? = (lexL ops v a0 pre).tmps[t]? := fun t ht => by
      by_cases hk : ∃ k, k ∈ todoOf ops L0 ∧ dstOf ops k = some t
      · obtain ⟨k, hk, hkt⟩ := hk
        obtain ⟨hw, hki⟩ := ok.looks i hti oi' hoi t ht k hk hkt
        have hl := hwait k hk hw
        have hkp : k ∈ pre := by
          have hsort : (todoOf ops L0).Pairwise (· < ·) := List.Pairwise.filter _ List.pairwise_lt_range
          rw [el] at hk hsort
          rcases List.mem_append.1 hk with h | h
          · exact h
          · rcases List.mem_cons.1 h with h | h
            · omega
            · have := (List.pairwise_cons.1 (List.pairwise_append.1 hsort).2.1).1 k h
              omega
        rw [(hv k hk hl).1 t hkt, lexL_at v pre a0 k t hndp (fun x hx y hy hxy hx0 => ok.apart x (hpre x hx) y (hpre y hy) hxy hx0) hkp hkt (by rw [hn]; exact ok.range k hk t hkt)]
      · have hk' : ∀ k, k ∈ todoOf ops L0 → dstOf ops k ≠ some t := fun k h1 h2 => hk ⟨k, h1, h2⟩
        rw [inv.other t (fun j hj _ => hk' j hj), lexL_other v t pre a0 (fun j hj => hk' j (hpre j hj))]
    have h2 := wpOp_of_list (Q := Q) (a := a) hoi (ok.sel i oi' · · hoi) hag (by rw [lexL_size, inv.tsize]) (X := fun u w'' => R i u w'' ∧ Keeps (fun _ => False) w w'') h1
    refine wpOp_mono (fun a' w' => ?_) h2
    rintro ⟨u, rfl, hRu, hk⟩
    have hset : ∀ j, (listed.setIfInBounds i true).getD j true = true ↔ (j = i ∨ listed.getD j true = true) := fun j => by
      by_cases hji : j = i
      · subst hji
        have : j < listed.size := by rw [inv.size]; exact hlt
        simp [this]
      · rw [getD_set_ne true (Ne.symm hji)]
        simp [hji]
    refine ⟨by simp [inv.size], inv.closed.set hi, by rw [put_defers, inv.defers], by rw [put_size, inv.tsize], fun j hj => (hset j).2 (.inr (inv.grown j hj)), fun t ht => ?_, fun j hj hl => ?_, inv.keep.trans hk (fun _ _ h => h)⟩
    · rw [put_other (by rw [← hdi]; exact ht i hti ((hset i).2 (.inl rfl)))]
      exact inv.other t fun j hj hl => ht j hj ((hset j).2 (.inr hl))
    · by_cases hji : j = i
      · subst hji
        refine ⟨u, fun d hd => ?_, hRu⟩
        rw [← hdi, hd]
        exact put_at (by rw [inv.tsize, hn]; exact ok.range j hj d hd)
      · have hl' : listed.getD j true = true := ((hset j).1 hl).resolve_left hji
        obtain ⟨u', hu', hR'⟩ := inv.rel j hj hl'
        refine ⟨u', fun d hd => ?_, hR j u' w w' hR' hk⟩
        rw [put_other]
        · exact hu' d hd
        · intro e
          exact ok.apart j hj i hti hji (by rw [hd]; simp) (by rw [hd, hdi, e])

theorem par_end {R : Nat → Value → World → Prop} {L0 : Array Bool} {n : Nat} {a0 : Act} {w0 : World} (ok : ParOk md ops L0 n) (hn : a0.tmps.size = n)
    (goal : ParGoal P md ops Q R w0 (todoOf ops L0) a0 []) {listed : Array Bool} {a : Act} {w : World} (inv : ParInv md ops R L0 a0 w0 listed a w) (hr : Region.ready md ops listed = []) : Q .normal a w := by
  have hall : ∀ m, ∀ j, j < m → j < ops.size → listed.getD j true = true := by
    intro m
    induction m with
    | zero => exact fun j hj => absurd hj (Nat.not_lt_zero _)
    | succ m ih =>
      intro j hj hjs
      cases h : listed.getD j true with
      | true => rfl
      | false =>
        have : j ∈ Region.ready md ops listed := mem_ready.2 ⟨h, ops[j], Array.getElem?_eq_getElem hjs, fun e he hb => by
          have h1 := ok.less j _ (Array.getElem?_eq_getElem hjs) e he hb
          have h2 := ih e.on (by omega) (by omega)
          have : e.on < listed.size := by rw [inv.size]; omega
          simpa [this] using h2⟩
        rw [hr] at this
        cases this
  obtain ⟨v, hv⟩ := Classical.axiomOfChoice (fun j => (show ∃ u, j ∈ todoOf ops L0 → (∀ d, dstOf ops j = some d → a.tmps[d]? = some u) ∧ R j u w from by
    by_cases h1 : j ∈ todoOf ops L0
    · obtain ⟨u, hu⟩ := inv.rel j h1 (hall _ j (Nat.lt_succ_self _) (mem_todo.1 h1).1)
      exact ⟨u, fun _ => hu⟩
    · exact ⟨undef, fun h2 => absurd h2 h1⟩))
  have h1 := goal.final v _ _ _ w inv.keep (fun p hp => by cases hp) (fun j hj => (hv j hj).2)
  have e : a = lexL ops v a0 (todoOf ops L0) := by
    have e1 : a.tmps = (lexL ops v a0 (todoOf ops L0)).tmps := by
      apply Array.ext_getElem?
      intro t
      by_cases hk : ∃ k, k ∈ todoOf ops L0 ∧ dstOf ops k = some t
      · obtain ⟨k, hk, hkt⟩ := hk
        rw [(hv k hk).1 t hkt, lexL_at v _ a0 k t (todo_nodup _) ok.apart hk hkt (by rw [hn]; exact ok.range k hk t hkt)]
      · have hk' : ∀ k, k ∈ todoOf ops L0 → dstOf ops k ≠ some t := fun k h1 h2 => hk ⟨k, h1, h2⟩
        rw [inv.other t (fun j hj _ => hk' j hj), lexL_other v t _ a0 hk']
    have e2 : a.defers = (lexL ops v a0 (todoOf ops L0)).defers := by rw [lexL_defers, inv.defers]
    obtain ⟨x, y⟩ := a
    generalize lexL ops v a0 (todoOf ops L0) = b at e1 e2
    obtain ⟨x', y'⟩ := b
    simp only at e1 e2
    rw [e1, e2]
  rw [e]
  exact h1

theorem par_any {R : Nat → Value → World → Prop} (hR : ∀ j v w w', R j v w → Keeps (fun _ => False) w w' → R j v w') {L0 : Array Bool} {n : Nat} {a0 : Act} {w0 : World} (ok : ParOk md ops L0 n) (hn : a0.tmps.size = n)
    (goal : ParGoal P md ops Q R w0 (todoOf ops L0) a0 []) : ∀ (f : Nat) (listed : Array Bool) (a : Act) (w : World), (∀ j, listed.getD j true = false → j < ops.size) → (todoOf ops listed).length ≤ f → ParInv md ops R L0 a0 w0 listed a w → wpAny P md ops Q f listed a w
  | 0, listed, a, w, hin, hf, inv => by
    have hr : Region.ready md ops listed = [] := by
      cases h : Region.ready md ops listed with
      | nil => rfl
      | cons i r =>
        have : i ∈ Region.ready md ops listed := by rw [h]; exact List.mem_cons_self
        obtain ⟨hun, oi, hoi, _⟩ := mem_ready.1 this
        have : i ∈ todoOf ops listed := mem_todo.2 ⟨(Array.getElem?_eq_some_iff.1 hoi).1, hun⟩
        have := List.length_pos_of_mem this
        omega
    exact ⟨hr, par_end ok hn goal inv hr⟩
  | f + 1, listed, a, w, hin, hf, inv => by
    refine ⟨fun hr => par_end ok hn goal inv hr, fun i hi => wpOp_mono (fun a' w' inv' => ?_) (par_step hR ok hn goal inv hi)⟩
    obtain ⟨hun, oi, hoi, _⟩ := mem_ready.1 hi
    have hlt := (Array.getElem?_eq_some_iff.1 hoi).1
    refine par_any hR ok hn goal f _ a' w' (fun j hj => hin j ?_) ?_ inv'
    · by_cases hji : j = i
      · subst hji
        exact hun
      · rwa [getD_set_ne true (Ne.symm hji)] at hj
    · have : (todoOf ops (listed.setIfInBounds i true)).length < (todoOf ops listed).length := by
        have e : todoOf ops (listed.setIfInBounds i true) = (todoOf ops listed).filter (fun j => j != i) := by
          unfold todoOf
          rw [List.filter_filter]
          refine List.filter_congr fun j hj => ?_
          by_cases hji : j = i
          · subst hji
            have : j < listed.size := by rw [inv.size]; exact hlt
            simp [this]
          · rw [getD_set_ne true (Ne.symm hji)]
            simp [hji]
        rw [e]
        exact List.length_filter_lt_length_iff_exists.2 ⟨i, mem_todo.2 ⟨hlt, hun⟩, by simp⟩
      omega

/-- Words that stay. -/
def Stays (R : Value → World → Prop) : Prop := ∀ v w w', R v w → Keeps (fun _ => False) w w' → R v w'
def Rel := { R : Value → World → Prop // Stays R }
def rEq (x : Value) : Rel := ⟨fun v _ => v = x, fun _ _ _ h _ => h⟩
def rOf (Rs : List (Nat × Rel)) (j : Nat) (v : Value) (w : World) : Prop := match Rs.lookup j with | some R => R.1 v w | none => True
theorem rOf_stays (Rs : List (Nat × Rel)) : ∀ j v w w', rOf Rs j v w → Keeps (fun _ => False) w w' → rOf Rs j v w' := by
  intro j v w w' h hk
  unfold rOf at *
  split
  · rename_i R hR
    rw [hR] at h
    exact R.2 v w w' h hk
  · trivial

theorem anyT_of_any {C : World → Prop} (hC : ∀ w, C w) : ∀ (f : Nat) (listed : Array Bool) (a : Act) (w : World), wpAny P md ops Q f listed a w → anyT P md ops Q [] C f listed a w
  | 0, _, _, _, h => h
  | f + 1, _, _, _, h => ⟨h.1, fun i hi => wpOp_mono (fun a' w' h' => ⟨fun _ => hC _, anyT_of_any hC f _ a' w' h'⟩) (h.2 i hi)⟩

/-- The rule, behind whatever has come up. -/
theorem anyT_par {C : World → Prop} {f : Nat} {listed : Array Bool} {a : Act} {w : World} (Rs : List (Nat × Rel)) (n : Nat) (todo : List Nat) (hC : ∀ w, C w) (hok : parB md ops listed n = true) (hn : a.tmps.size = n) (htodo : todoOf ops listed = todo) (hf : todo.length = f)
    (goal : ParGoal P md ops Q (rOf Rs) w todo a []) : anyT P md ops Q [] C f listed a w := by
  have ok := parOk hok
  subst htodo
  have h := par_any (rOf_stays Rs) ok hn goal f listed a w (fun j hj => by
    rcases Nat.lt_or_ge j listed.size with h | h
    · rw [← ok.size]; exact h
    · simp [Array.getElem?_eq_none h] at hj) (by omega) ⟨ok.size, ok.closed, rfl, rfl, fun _ h => h, fun _ _ => rfl, (fun j hj hl => absurd hl (by rw [(mem_todo.1 hj).2]; decide)), Keeps.refl _ _⟩
  exact anyT_of_any hC f listed a w h
end
end Go.Proofs.YtekaoknpjpbjgaaDoor

/-! What reads may be taken first where all that writes waits for it, through others. -/
namespace Go.Proofs.YtekaoknpjpbjgaaDoor
set_option linter.unusedVariables false
set_option linter.unusedSimpArgs false
open Go.RowKit
section
variable {P : Program} {ops : Array Oper} {Q : Exit → Act → World → Prop} {md : Region.Mode}

def reachB (md : Region.Mode) (ops : Array Oper) : Nat → Nat → Nat → Bool
  | 0, _, _ => false
  | f + 1, e, i => Region.waitsFor md ops e i || ((ops[e]?).map fun o => o.after.any fun g => Region.binds md g && reachB md ops f g.on i).getD false

theorem reach_listed {listed : Array Bool} {i : Nat} (hcl : Closed md ops listed) : ∀ (f e : Nat), reachB md ops f e i = true → listed.getD e false = true → listed.getD i false = true
  | 0, _, h, _ => by cases h
  | f + 1, e, h, hl => by
    unfold reachB at h
    rcases Bool.or_eq_true _ _ ▸ h with h | h
    · obtain ⟨oe, hoe, g, hg, hb, hon⟩ := Region.waitsFor_spec h
      have := hcl e oe hoe hl g hg hb
      rwa [hon] at this
    · cases hoe : ops[e]? with
      | none => rw [hoe] at h; cases h
      | some oe =>
        rw [hoe] at h
        simp only [Option.map_some, Option.getD_some] at h
        obtain ⟨g, hg, hb⟩ := Array.any_eq_true'.1 h
        simp only [Bool.and_eq_true] at hb
        exact reach_listed hcl f g.on hb.2 (hcl e oe hoe hl g hg hb.1)

theorem anyT_firstW {E : List Nat} {C D : World → Prop} {i n : Nat} {oi : Oper} {v : Value} (hi : ops[i]? = some oi) (hsel : ∀ (j : Nat) (o : Oper) cs b, ops[j]? = some o → o.op ≠ .select cs b)
    (hQ : ∀ c a w, Q (.panic c) (a.put oi.dst v) w → Q (.panic c) a w) (hE : i ∉ E)
    (hD : (∀ w, C w → D w) ∧ ∀ e ∈ E, reachB md ops n e i = true) (f : Nat) :
    ∀ (listed : Array Bool) (a : Act) (w : World), Closed md ops listed →
      (∀ j oj, ops[j]? = some oj → j ≠ i → listed.getD j true = false → (∀ e ∈ oj.after, Region.binds md e = true → e.on ≠ i) → oi.apart ops oj = true) →
      i ∈ Region.ready md ops listed → YieldsIf P ops D oi v a → (Yet E listed → C w) →
      anyT P md ops Q E C f (listed.setIfInBounds i true) (a.put oi.dst v) w → anyT P md ops Q E C (f + 1) listed a w := by
  have world : ∀ (listed : Array Bool) (w : World), Closed md ops listed → listed.getD i true = false → (Yet E listed → C w) → D w := by
    intro listed w hcl hun hC
    obtain ⟨hCD, hw⟩ := hD
    refine hCD w (hC fun e he => ?_)
    cases hl : listed.getD e false with
    | false => rfl
    | true =>
      have := reach_listed hcl n e (hw e he) hl
      rw [getD_both hun] at this
      cases this
  induction f with
  | zero =>
    intro listed a w hcl _ hr hy hC H
    have hun := (mem_ready.1 hr).1
    refine ⟨fun h => (by rw [h] at hr; cases hr), fun j hj => ?_⟩
    by_cases hji : j = i
    · subst hji; exact hy.wpOp hi (world _ _ hcl hun hC) ⟨fun h => hC ((yet_set hE).1 h), H⟩
    · have := ready_mono hj hji
      rw [H.1] at this
      cases this
  | succ f ih =>
    intro listed a w hcl hfree hr hy hC H
    have hun := (mem_ready.1 hr).1
    refine ⟨fun h => (by rw [h] at hr; cases hr), fun j hj => ?_⟩
    by_cases hji : j = i
    · subst hji; exact hy.wpOp hi (world _ _ hcl hun hC) ⟨fun h => hC ((yet_set hE).1 h), H⟩
    · obtain ⟨hjun, oj, hoj, hall⟩ := mem_ready.1 hj
      have hnot : ∀ e ∈ oj.after, Region.binds md e = true → e.on ≠ i := fun e he hb heq => by
        have := hall e he hb
        rw [heq, getD_both hun] at this
        cases this
      have h2 := wpOp_putIf hoj (hfree j oj hoj hji hjun hnot) (fun cs b => hsel i oi cs b hi) (fun cs b => hsel j oj cs b hoj) hQ hy (H.2 j (ready_mono hj hji))
      refine wpOp_mono (fun a' w' h3 => ?_) h2
      have hC' : Yet E (listed.setIfInBounds j true) → C w' := fun h => h3.2.1 (by rw [Array.setIfInBounds_comm _ _ (Ne.symm hji)]; exact (yet_set hE).2 h)
      refine ⟨hC', ih (listed.setIfInBounds j true) a' w' (hcl.set hj) (fun k ok hk hki hku hno => ?_) (ready_mono hr (Ne.symm hji)) h3.1 hC' ?_⟩
      · refine hfree k ok hk hki ?_ hno
        by_cases hjk : j = k
        · subst hjk; exact hjun
        · rwa [getD_set_ne true hjk] at hku
      · rw [Array.setIfInBounds_comm _ _ hji]
        exact h3.2.2

theorem anyT_takeW {E : List Nat} {C : World → Prop} {i : Nat} {oi : Oper} {v : Value} {f : Nat} {listed : Array Bool} {a : Act} {w : World} (hi : ops[i]? = some oi)
    (hs : Region.noSelect ops = true) (hf : Region.free md ops listed i = true) (hr : (Region.ready md ops listed).contains i = true) (hcl : closedB md ops listed = true) (hE : E.contains i = false)
    (hw : E.all (fun e => reachB md ops 12 e i) = true)
    (hQ : ∀ c a w, Q (.panic c) (a.put oi.dst v) w → Q (.panic c) a w) (hC : C w) (hy : YieldsIf P ops C oi v a)
    (h : anyT P md ops Q E C f (listed.setIfInBounds i true) (a.put oi.dst v) w) : anyT P md ops Q E C (f + 1) listed a w :=
  anyT_firstW (D := C) hi (Region.noSelect_spec hs) hQ (by simpa using hE) ⟨fun _ h => h, fun e he => List.all_eq_true.1 hw e he⟩ f listed a w (closedB_spec hcl) (Region.free_spec hi hf) (by simpa using hr) hy (fun _ => hC) h
end
end Go.Proofs.YtekaoknpjpbjgaaDoor
