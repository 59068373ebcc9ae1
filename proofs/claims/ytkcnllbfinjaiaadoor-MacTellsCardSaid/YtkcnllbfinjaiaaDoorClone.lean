/- slices.Clone, at bytes and at rows of bytes. -/
import Derived.Test.YtkcnllbfinjaiaaDoorBytes2
import Derived.Test.YtkcnllbfinjaiaaDoorWhole
import Derived.Lib.SliceRun
namespace Go.Proofs.YtkcnllbfinjaiaaDoor
open Go.RowKit

theorem BAt.none_nil {w : World} {p : Nat → Prop} {n c : Nat} {l : List UInt8} (h : BAt w p (.slice Option.none n c) l) : l = [] := by
  obtain ⟨h1, a', c', e, h3, h4, h5⟩ := h
  rcases h5 with h5 | ⟨b, off, hb, ha, hc⟩
  · simpa [bcells] using h5
  · simp only [Value.slice.injEq] at e
    rw [← e.1] at ha
    cases ha
theorem Own.made (w : World) (T : TypeId) (base : Nat) (hb : base ≤ w.heap.size) : Own (w.alloc (.cells #[] T)) base T 1 (.slice (some ⟨w.heap.size, 0, none⟩) 0 0) 0 [] :=
  ⟨rfl, by simp, .inr ⟨w.heap.size, 0, 0, #[], hb, rfl, Nat.le_refl _, by simp [maxLen], RowAt.new w _ _, by simp, fun j hj => by omega⟩⟩

set_option maxRecDepth 100000 in
set_option maxHeartbeats 1000000 in
theorem clone_any (v : Value) (l : List UInt8) (w : World) (p : Nat → Prop) (h : BAt w p v l) (hl : l.length ≤ 140737488355328) :
    Calls Tryd.prog 15 #[v] w (Gives l w) := by
  obtain ⟨a, c, rfl, hc, hm⟩ := h.slice
  simp only [maxLen] at hm
  have hE := fun (a : Option Addr) (n : Nat) (w : World) => Lib.run_eql_slice_nil (P := Tryd.prog) w 22 _ a n c 0 0 Tryd.underlying22
  cases a with
  | none =>
    obtain rfl := h.none_nil
    go_enter Tryd.func15, Tryd.ntmps15
    go_wp2
    go_ret
    exact ⟨_, rfl, BOwn.nil _ _, Keeps.refl _ _⟩
  | some a =>
    obtain ⟨v', w', hrun, ho', hk', -⟩ := run_append_bytes (ty := 22) (base := w.heap.size) (show BOwn (w.alloc (.cells #[] 5)) w.heap.size (.slice (some ⟨w.heap.size, 0, none⟩) 0 0) [] from Own.made w _ _ (Nat.le_refl _))
      (h.keeps ((Keeps.refl (fun _ => False) w).alloc (.cells #[] 5)) (fun _ _ h => h)) (by simpa using hl) (by show _ ≤ (w.heap.push _).size; simp)
    have HR := Lib.hid hrun
    clear hrun
    go_enter Tryd.func15, Tryd.ntmps15
    go_wp2_with (at_builtin; refine Lib.wpList_append_run _ rfl _ _ _ _ rfl _ _ rfl rfl _ _ HR.out ?_)
    go_ret
    exact ⟨_, rfl, ho', ((Keeps.refl (fun _ => False) w).alloc _).from hk' (fun b hb => by simp [Value.ownBlock] at hb; omega)⟩

theorem info_sl : (Tryd.prog.info? 22).map (fun i => (i.zero, i.size, i.bytes)) = some (some (.slice none 0 0), 1, 24) := by kernel_rfl

set_option maxRecDepth 100000 in
set_option maxHeartbeats 1000000 in
/-- The rows stay the same values, in a block of its own. -/
theorem cloneB_any (v : Value) (n : Nat) (vs : List Value) (w : World) (p : Nat → Prop) (h : SAt w p 1 v n vs) (h1 : ∀ u ∈ vs, u.oneCell' = true) (h0 : 0 < n) (hl : n ≤ 1000000000) :
    Calls Tryd.prog 18 #[v] w fun e w' => ∃ v', e = .returned v' ∧ Own w' w.heap.size 22 1 v' n vs ∧ Keeps (fun _ => False) w w' := by
  obtain ⟨a, c, rfl, hc, hm⟩ := h.slice
  simp only [maxLen] at hm
  obtain ⟨i, hi, hz, hs, hb⟩ := info_parts info_sl
  obtain ⟨v', w', hr, ha⟩ := run_append (P := Tryd.prog) (t := 35) (ty := 35) (tx := 35) Tryd.underlying35 hi hz hs hb (by rfl) (Own.made w 22 w.heap.size (Nat.le_refl _))
    (SAt.src Tryd.underlying35 (h.keeps ((Keeps.refl (fun _ => False) w).alloc (.cells #[] 22)) (fun _ _ h => h)) h1 (by omega)) (by simp only [maxLen]; omega) (by omega) (by show _ ≤ (w.heap.push _).size; simp)
  have ho := ha.own
  rw [Nat.zero_add, List.nil_append] at ho
  have hk := ha.keeps
  have HR := Lib.hid hr
  obtain ⟨b, off, rfl⟩ : ∃ b off, a = some ⟨b, off, Option.none⟩ := by
    obtain ⟨e1, a', c', e, -, -, h5⟩ := h
    simp only [Value.slice.injEq] at e
    obtain ⟨rfl, -, rfl⟩ := e
    rcases h5 with h5 | ⟨b, off, _, ha, _⟩
    · rw [h5] at e1; simp at e1; omega
    · exact ⟨b, off, ha⟩
  clear hr ha
  have hE := fun (a : Option Addr) (n : Nat) (w : World) => Lib.run_eql_slice_nil (P := Tryd.prog) w 35 _ a n c 0 0 Tryd.underlying35
  go_enter Tryd.func18, Tryd.ntmps18
  go_wp2_with (at_builtin; refine Lib.wpList_append_run _ rfl _ _ _ _ rfl _ _ rfl rfl _ _ HR.out ?_)
  go_ret
  exact ⟨_, rfl, ho, ((Keeps.refl (fun _ => False) w).alloc _).from hk (fun b hb => by simp [Value.ownBlock] at hb; omega)⟩

end Go.Proofs.YtkcnllbfinjaiaaDoor
