/- What reads may be taken first where all that writes waits for it, through others. -/
import Derived.Test.YtkcnllbfinjaiaaDoorPar
namespace Go.Proofs.YtkcnllbfinjaiaaDoor
open Go.RowKit
section
variable {P : Program} {ops : Array Oper} {Q : Exit → Act → World → Prop} {md : Region.Mode}

def reachB (md : Region.Mode) (ops : Array Oper) : Nat → Nat → Nat → Bool
  | 0, _, _ => false
  | f + 1, e, i => Region.waitsFor md ops e i || ((ops[e]?).map fun o => o.after.any fun g => Region.binds md g && reachB md ops f g.on i).getD false

theorem reach_listed {listed : Array Bool} {i : Nat} (hcl : Closed md ops listed) : ∀ (f e : Nat), reachB md ops f e i = true → listed.getD e false = true → listed.getD i false = true
  | 0, _, h, _ => by cases h
  | f + 1, e, h, hl => by
    unfold reachB at h
    rcases Bool.or_eq_true _ _ ▸ h with h | h
    · obtain ⟨oe, hoe, g, hg, hb, hon⟩ := Region.waitsFor_spec h
      have := hcl e oe hoe hl g hg hb
      rwa [hon] at this
    · cases hoe : ops[e]? with
      | none => rw [hoe] at h; cases h
      | some oe =>
        rw [hoe] at h
        simp only [Option.map_some, Option.getD_some] at h
        obtain ⟨g, hg, hb⟩ := Array.any_eq_true'.1 h
        simp only [Bool.and_eq_true] at hb
        exact reach_listed hcl f g.on hb.2 (hcl e oe hoe hl g hg hb.1)

theorem anyT_firstW {E : List Nat} {C D : World → Prop} {i n : Nat} {oi : Oper} {v : Value} (hi : ops[i]? = some oi) (hsel : ∀ (j : Nat) (o : Oper) cs b, ops[j]? = some o → o.op ≠ .select cs b)
    (hQ : ∀ c a w, Q (.panic c) (a.put oi.dst v) w → Q (.panic c) a w) (hE : i ∉ E)
    (hD : (∀ w, C w → D w) ∧ ∀ e ∈ E, reachB md ops n e i = true) (f : Nat) :
    ∀ (listed : Array Bool) (a : Act) (w : World), Closed md ops listed →
      (∀ j oj, ops[j]? = some oj → j ≠ i → listed.getD j true = false → (∀ e ∈ oj.after, Region.binds md e = true → e.on ≠ i) → oi.apart ops oj = true) →
      i ∈ Region.ready md ops listed → YieldsIf P ops D oi v a → (Yet E listed → C w) →
      anyT P md ops Q E C f (listed.setIfInBounds i true) (a.put oi.dst v) w → anyT P md ops Q E C (f + 1) listed a w := by
  have world : ∀ (listed : Array Bool) (w : World), Closed md ops listed → listed.getD i true = false → (Yet E listed → C w) → D w := by
    intro listed w hcl hun hC
    obtain ⟨hCD, hw⟩ := hD
    refine hCD w (hC fun e he => ?_)
    cases hl : listed.getD e false with
    | false => rfl
    | true =>
      have := reach_listed hcl n e (hw e he) hl
      rw [getD_both hun] at this
      cases this
  induction f with
  | zero =>
    intro listed a w hcl _ hr hy hC H
    have hun := (mem_ready.1 hr).1
    refine ⟨fun h => (by rw [h] at hr; cases hr), fun j hj => ?_⟩
    by_cases hji : j = i
    · subst hji; exact hy.wpOp hi (world _ _ hcl hun hC) ⟨fun h => hC ((yet_set hE).1 h), H⟩
    · have := ready_mono hj hji
      rw [H.1] at this
      cases this
  | succ f ih =>
    intro listed a w hcl hfree hr hy hC H
    have hun := (mem_ready.1 hr).1
    refine ⟨fun h => (by rw [h] at hr; cases hr), fun j hj => ?_⟩
    by_cases hji : j = i
    · subst hji; exact hy.wpOp hi (world _ _ hcl hun hC) ⟨fun h => hC ((yet_set hE).1 h), H⟩
    · obtain ⟨hjun, oj, hoj, hall⟩ := mem_ready.1 hj
      have hnot : ∀ e ∈ oj.after, Region.binds md e = true → e.on ≠ i := fun e he hb heq => by
        have := hall e he hb
        rw [heq, getD_both hun] at this
        cases this
      have h2 := wpOp_putIf hoj (hfree j oj hoj hji hjun hnot) (fun cs b => hsel i oi cs b hi) (fun cs b => hsel j oj cs b hoj) hQ hy (H.2 j (ready_mono hj hji))
      refine wpOp_mono (fun a' w' h3 => ?_) h2
      have hC' : Yet E (listed.setIfInBounds j true) → C w' := fun h => h3.2.1 (by rw [Array.setIfInBounds_comm _ _ (Ne.symm hji)]; exact (yet_set hE).2 h)
      refine ⟨hC', ih (listed.setIfInBounds j true) a' w' (hcl.set hj) (fun k ok hk hki hku hno => ?_) (ready_mono hr (Ne.symm hji)) h3.1 hC' ?_⟩
      · refine hfree k ok hk hki ?_ hno
        by_cases hjk : j = k
        · subst hjk; exact hjun
        · rwa [getD_set_ne true hjk] at hku
      · rw [Array.setIfInBounds_comm _ _ hji]
        exact h3.2.2

theorem anyT_takeW {E : List Nat} {C : World → Prop} {i : Nat} {oi : Oper} {v : Value} {f : Nat} {listed : Array Bool} {a : Act} {w : World} (hi : ops[i]? = some oi)
    (hs : Region.noSelect ops = true) (hf : Region.free md ops listed i = true) (hr : (Region.ready md ops listed).contains i = true) (hcl : closedB md ops listed = true) (hE : E.contains i = false)
    (hw : E.all (fun e => reachB md ops 12 e i) = true)
    (hQ : ∀ c a w, Q (.panic c) (a.put oi.dst v) w → Q (.panic c) a w) (hC : C w) (hy : YieldsIf P ops C oi v a)
    (h : anyT P md ops Q E C f (listed.setIfInBounds i true) (a.put oi.dst v) w) : anyT P md ops Q E C (f + 1) listed a w :=
  anyT_firstW (D := C) hi (Region.noSelect_spec hs) hQ (by simpa using hE) ⟨fun _ h => h, fun e he => List.all_eq_true.1 hw e he⟩ f listed a w (closedB_spec hcl) (Region.free_spec hi hf) (by simpa using hr) hy (fun _ => hC) h
end
end Go.Proofs.YtkcnllbfinjaiaaDoor
