/- Words, walks and plain laws that the claim leans on, part 10. -/
import Derived.Test.YtiodmhcmciohnaaG6
import Derived.Test.YtiodmhcmciohnaaG9
import Derived.Lib.SliceRun

/-! slices.Clone, at bytes and at rows of bytes. -/
namespace Go.Proofs.Ytiodmhcmciohnaa
set_option linter.unusedVariables false
set_option linter.unusedSimpArgs false
open Go.RowKit

theorem BAt.none_nil {w : World} {p : Nat → Prop} {n c : Nat} {l : List UInt8} (h : BAt w p (.slice Option.none n c) l) : l = [] := by
  obtain ⟨h1, a', c', e, h3, h4, h5⟩ := h
  rcases h5 with h5 | ⟨b, off, hb, ha, hc⟩
  · simpa [bcells] using h5
  · simp only [Value.slice.injEq] at e
    rw [← e.1] at ha
    cases ha
theorem Own.made (w : World) (T : TypeId) (base : Nat) (hb : base ≤ w.heap.size) : Own (w.alloc (.cells #[] T)) base T 1 (.slice (some ⟨w.heap.size, 0, none⟩) 0 0) 0 [] :=
  ⟨rfl, by simp, .inr ⟨w.heap.size, 0, 0, #[], hb, rfl, Nat.le_refl _, by simp [maxLen], RowAt.new w _ _, by simp, fun j hj => by omega⟩⟩

set_option maxRecDepth 100000 in
set_option maxHeartbeats 1000000 in
theorem clone_any (v : Value) (l : List UInt8) (w : World) (p : Nat → Prop) (h : BAt w p v l) (hl : l.length ≤ 140737488355328) :
    Calls Try.prog 31 #[v] w (Gives l w) := by
  obtain ⟨a, c, rfl, hc, hm⟩ := h.slice
  simp only [maxLen] at hm
  have hE := fun (a : Option Addr) (n : Nat) (w : World) => Lib.run_eql_slice_nil (P := Try.prog) w 30 _ a n c 0 0 Try.underlying30
  cases a with
  | none =>
    obtain rfl := h.none_nil
    go_enter Try.func31, Try.ntmps31
    go_wp2
    go_ret
    exact ⟨_, rfl, BOwn.nil _ _, Keeps.refl _ _⟩
  | some a =>
    obtain ⟨v', w', hrun, ho', hk', -⟩ := run_append_bytes (ty := 30) (base := w.heap.size) (show BOwn (w.alloc (.cells #[] 5)) w.heap.size (.slice (some ⟨w.heap.size, 0, none⟩) 0 0) [] from Own.made w _ _ (Nat.le_refl _))
      (h.keeps ((Keeps.refl (fun _ => False) w).alloc (.cells #[] 5)) (fun _ _ h => h)) (by simpa using hl) (by show _ ≤ (w.heap.push _).size; simp)
    have HR := Lib.hid hrun
    clear hrun
    go_enter Try.func31, Try.ntmps31
    go_wp2_with (at_builtin; refine Lib.wpList_append_run _ rfl _ _ _ _ rfl _ _ rfl rfl _ _ HR.out ?_)
    go_ret
    exact ⟨_, rfl, ho', ((Keeps.refl (fun _ => False) w).alloc _).from hk' (fun b hb => by simp [Value.ownBlock] at hb; omega)⟩

end Go.Proofs.Ytiodmhcmciohnaa
