/- Words, walks and plain laws that the claim leans on, part 13. -/
import Derived.Test.YtekaoknpjpbjgaaDoorM3
import Derived.Test.YtekaoknpjpbjgaaDoorM5
import Derived.Test.YtekaoknpjpbjgaaDoorM10
import Derived.Lib.SliceRun

/-! slices.Clone, at bytes and at rows of bytes. -/
namespace Go.Proofs.YtekaoknpjpbjgaaDoor
set_option linter.unusedVariables false
set_option linter.unusedSimpArgs false
open Go.RowKit

theorem BAt.none_nil {w : World} {p : Nat → Prop} {n c : Nat} {l : List UInt8} (h : BAt w p (.slice Option.none n c) l) : l = [] := by
  obtain ⟨h1, a', c', e, h3, h4, h5⟩ := h
  rcases h5 with h5 | ⟨b, off, hb, ha, hc⟩
  · simpa [bcells] using h5
  · simp only [Value.slice.injEq] at e
    rw [← e.1] at ha
    cases ha
theorem Own.made (w : World) (T : TypeId) (base : Nat) (hb : base ≤ w.heap.size) : Own (w.alloc (.cells #[] T)) base T 1 (.slice (some ⟨w.heap.size, 0, none⟩) 0 0) 0 [] :=
  ⟨rfl, by simp, .inr ⟨w.heap.size, 0, 0, #[], hb, rfl, Nat.le_refl _, by simp [maxLen], RowAt.new w _ _, by simp, fun j hj => by omega⟩⟩

set_option maxRecDepth 100000 in
set_option maxHeartbeats 1000000 in
theorem clone_any (v : Value) (l : List UInt8) (w : World) (p : Nat → Prop) (h : BAt w p v l) (hl : l.length ≤ 140737488355328) :
    Calls Tryd.prog 44 #[v] w (Gives l w) := by
  obtain ⟨a, c, rfl, hc, hm⟩ := h.slice
  simp only [maxLen] at hm
  have hE := fun (a : Option Addr) (n : Nat) (w : World) => Lib.run_eql_slice_nil (P := Tryd.prog) w 25 _ a n c 0 0 Tryd.underlying25
  cases a with
  | none =>
    obtain rfl := h.none_nil
    go_enter Tryd.func44, Tryd.ntmps44
    go_wp2
    go_ret
    exact ⟨_, rfl, BOwn.nil _ _, Keeps.refl _ _⟩
  | some a =>
    obtain ⟨v', w', hrun, ho', hk', -⟩ := run_append_bytes (ty := 25) (base := w.heap.size) (show BOwn (w.alloc (.cells #[] 5)) w.heap.size (.slice (some ⟨w.heap.size, 0, none⟩) 0 0) [] from Own.made w _ _ (Nat.le_refl _))
      (h.keeps ((Keeps.refl (fun _ => False) w).alloc (.cells #[] 5)) (fun _ _ h => h)) (by simpa using hl) (by show _ ≤ (w.heap.push _).size; simp)
    have HR := Lib.hid hrun
    clear hrun
    go_enter Tryd.func44, Tryd.ntmps44
    go_wp2_with (at_builtin; refine Lib.wpList_append_run _ rfl _ _ _ _ rfl _ _ rfl rfl _ _ HR.out ?_)
    go_ret
    exact ⟨_, rfl, ho', ((Keeps.refl (fun _ => False) w).alloc _).from hk' (fun b hb => by simp [Value.ownBlock] at hb; omega)⟩

theorem info_sl : (Tryd.prog.info? 25).map (fun i => (i.zero, i.size, i.bytes)) = some (some (.slice none 0 0), 1, 24) := by kernel_rfl

set_option maxRecDepth 100000 in
set_option maxHeartbeats 1000000 in
/-- The rows stay the same values, in a block of its own. -/
theorem cloneB_any (v : Value) (n : Nat) (vs : List Value) (w : World) (p : Nat → Prop) (h : SAt w p 1 v n vs) (h1 : ∀ u ∈ vs, u.oneCell' = true) (h0 : 0 < n) (hl : n ≤ 1000000000) :
    Calls Tryd.prog 62 #[v] w fun e w' => ∃ v', e = .returned v' ∧ Own w' w.heap.size 25 1 v' n vs ∧ Keeps (fun _ => False) w w' := by
  obtain ⟨a, c, rfl, hc, hm⟩ := h.slice
  simp only [maxLen] at hm
  obtain ⟨i, hi, hz, hs, hb⟩ := info_parts info_sl
  obtain ⟨v', w', hr, ha⟩ := run_append (P := Tryd.prog) (t := 45) (ty := 45) (tx := 45) Tryd.underlying45 hi hz hs hb (by rfl) (Own.made w 25 w.heap.size (Nat.le_refl _))
    (SAt.src Tryd.underlying45 (h.keeps ((Keeps.refl (fun _ => False) w).alloc (.cells #[] 25)) (fun _ _ h => h)) h1 (by omega)) (by simp only [maxLen]; omega) (by omega) (by show _ ≤ (w.heap.push _).size; simp)
  have ho := ha.own
  rw [Nat.zero_add, List.nil_append] at ho
  have hk := ha.keeps
  have HR := Lib.hid hr
  obtain ⟨b, off, rfl⟩ : ∃ b off, a = some ⟨b, off, Option.none⟩ := by
    obtain ⟨e1, a', c', e, -, -, h5⟩ := h
    simp only [Value.slice.injEq] at e
    obtain ⟨rfl, -, rfl⟩ := e
    rcases h5 with h5 | ⟨b, off, _, ha, _⟩
    · rw [h5] at e1; simp at e1; omega
    · exact ⟨b, off, ha⟩
  clear hr ha
  have hE := fun (a : Option Addr) (n : Nat) (w : World) => Lib.run_eql_slice_nil (P := Tryd.prog) w 45 _ a n c 0 0 Tryd.underlying45
  go_enter Tryd.func62, Tryd.ntmps62
  go_wp2_with (at_builtin; refine Lib.wpList_append_run _ rfl _ _ _ _ rfl _ _ rfl rfl _ _ HR.out ?_)
  go_ret
  exact ⟨_, rfl, ho, ((Keeps.refl (fun _ => False) w).alloc _).from hk (fun b hb => by simp [Value.ownBlock] at hb; omega)⟩

end Go.Proofs.YtekaoknpjpbjgaaDoor

/-! mac.Full's inner function: a key unlike a byte. -/
namespace Go.Proofs.YtekaoknpjpbjgaaDoor
set_option linter.unusedVariables false
set_option linter.unusedSimpArgs false
open Go.RowKit

def withL (k : List UInt8) (x : UInt8) : List UInt8 := k.map (· ^^^ x)
def part (k : List UInt8) (x : UInt8) (j : Nat) : List UInt8 := (k.take j).map (· ^^^ x) ++ k.drop j
theorem part_len (k : List UInt8) (x : UInt8) (j : Nat) : (part k x j).length = k.length := by simp [part]; omega
theorem part_get (k : List UInt8) (x : UInt8) (j : Nat) (h : j < k.length) : (part k x j)[j]'(by rw [part_len]; exact h) = k[j] := by
  unfold part
  rw [List.getElem_append_right (by simp; omega)]
  simp [Nat.min_eq_left (Nat.le_of_lt h)]
theorem part_set (k : List UInt8) (x : UInt8) (j : Nat) (h : j < k.length) : (part k x j).set j (k[j] ^^^ x) = part k x (j + 1) := by
  unfold part
  rw [List.take_succ_eq_append_getElem h, List.map_append, List.set_append_right _ _ (by simp; omega)]
  simp [Nat.min_eq_left (Nat.le_of_lt h)]
  rw [List.drop_eq_getElem_cons h]
  rfl

set_option maxRecDepth 100000 in
set_option maxHeartbeats 1000000 in
theorem with_any (x : UInt8) (K : Nat) (kv : Value) (k : List UInt8) (w : World) (p : Nat → Prop) (hK : RowAt w K #[kv] 25) (h : BAt w p kv k) (hl : k.length ≤ 1000) :
    Calls Tryd.prog 60 #[.int .u8 (x.toNat : Int), .pointer (some ⟨K, 0, none⟩)] w (Gives (withL k x) w) := by
  obtain ⟨a, c, rfl, hc, hm⟩ := h.slice
  have c0 := hK.one
  have hE := fun (a : Option Addr) (n : Nat) (w : World) => Lib.run_eql_slice_nil (P := Tryd.prog) w 25 _ a n c 0 0 Tryd.underlying25
  clear hE
  go_enter Tryd.func60, Tryd.ntmps60
  go_wp2_with (go_at_call 44; refine (clone_any _ k _ _ h (by omega)).mono ?_; rintro e w1 ⟨v1, rfl, ho1, hk1⟩; obtain ⟨a1, c1, rfl, hc1, hm1⟩ := ho1.slice)
  go_loopw [10] (fun u10 wr => ∃ j : Nat, j ≤ k.length ∧ u10 = .int .i64 j ∧ BOwn wr w.heap.size (.slice a1 k.length c1) (part k x j) ∧ Keeps (fun _ => False) w wr) (fun u10 _ => k.length - (intOf u10).toNat)
  case atStart => exact ⟨0, by omega, rfl, by simpa [part] using ho1, hk1⟩
  case round =>
    obtain ⟨j, hj, rfl, ho, hkw⟩ := hrel
    by_cases hlt : j < k.length
    · obtain ⟨g, off, c2, e2, -, -, hg⟩ := ho.place (by rw [part_len]; omega)
      simp only [Value.slice.injEq] at e2
      obtain ⟨rfl, -, rfl⟩ := e2
      obtain ⟨t1, t2, t3⟩ := ho.at j (by rw [part_len]; omega)
      rw [part_get k x j hlt] at t1
      have t4 := t3 (k[j] ^^^ x)
      rw [part_set k x j hlt] at t4
      have hx : bits .xor .u8 (k[j].toNat : Int) (x.toNat : Int) = ((k[j] ^^^ x).toNat : Int) := by
        rw [u8_xor_nat _ _ (u8_lt _) (u8_lt _), UInt8.toNat_xor]
      have HX := Lib.hid hx
      have T4 := Lib.hid t4
      clear t3 t4 hx
      go_wp2
      go_roundw
      case rel => exact ⟨j + 1, by omega, by go_num, by rw [HX.out]; exact T4.out, hkw.setCell _ _ (.inr (by simpa using hg))⟩
      case measure => simp [intOf]; omega
    · obtain rfl : j = k.length := by omega
      go_wp2
      go_ret
      exact ⟨_, rfl, by simpa [part, withL, part_len] using ho, hkw⟩

end Go.Proofs.YtekaoknpjpbjgaaDoor
