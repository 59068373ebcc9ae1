/- Words, walks and plain laws that the claim leans on, part 20. -/
import Derived.Test.YtekaoknpjpbjgaaDoorM8
import Derived.Test.YtekaoknpjpbjgaaDoorM19

/-! mac.Tag; three parts; zeros behind a key. -/
namespace Go.Proofs.YtekaoknpjpbjgaaDoor
set_option linter.unusedVariables false
set_option linter.unusedSimpArgs false
open Go.RowKit

/-- The first bytes of the call's own. -/
theorem BOwn.first {w : World} {B g off c : Nat} {l : List UInt8} (h : BOwn w B (.slice (some ⟨g, off, none⟩) l.length c) l) (k m : Nat) (hk : k ≤ l.length) (hm : k ≤ m) (hmc : m ≤ c) :
    BOwn w B (.slice (some ⟨g, off, none⟩) k m) (l.take k) := by
  obtain ⟨h1, h0, h2⟩ := h
  rcases h2 with ⟨e, -, -⟩ | ⟨g', off', c', cs, hb, e, h3, h4, hr, h5, h6⟩
  · simp at e
  · simp only [Value.slice.injEq, Option.some.injEq, Addr.mk.injEq, and_true] at e
    obtain ⟨⟨rfl, rfl⟩, -, rfl⟩ := e
    have hl : (l.take k).length = k := by rw [List.length_take]; omega
    refine ⟨by rw [bcells_length]; omega, bcells_one _, .inr ⟨g, off, m, cs, hb, by rw [hl], by omega, by omega, hr, by omega, fun j hj => ?_⟩⟩
    rw [h6 j (by omega)]
    simp [bcells, List.getElem?_take]
    intro hkj
    omega

theorem BBAt.three {w : World} {q : Nat → Prop} {T : TypeId} {x y z : Value} {l m n : List UInt8} (hx : BAt w q x l) (hy : BAt w q y m) (hz : BAt w q z n) :
    BBAt (w.alloc (.cells #[x, y, z] T)) (fun b => b = w.heap.size) q (.slice (some ⟨w.heap.size, 0, none⟩) 3 3) [l, m, n] := by
  have hk := (Keeps.refl (fun _ => False) w).alloc (.cells #[x, y, z] T)
  refine BBAt.cons (vs := [y, z]) (x := x) (SAt.of_row (RowAt.new w _ _) 0 3 3 [x, y, z] rfl (Nat.le_refl _) (by simp [maxLen]) rfl (fun j hj => by rw [Nat.zero_add]; exact List.getElem?_toArray)) rfl (hx.keeps hk (fun _ _ h => h)) (fun i u k hu hk' => ?_)
  match i with
  | 0 =>
    obtain rfl : y = u := by simpa using hu
    obtain rfl : m = k := by simpa using hk'
    exact hy.keeps hk (fun _ _ h => h)
  | 1 =>
    obtain rfl : z = u := by simpa using hu
    obtain rfl : n = k := by simpa using hk'
    exact hz.keeps hk (fun _ _ h => h)
  | i + 2 => simp at hu

theorem hmac_len (key m : List UInt8) : (hmac key m).length = 32 := sha_len _
theorem hmac_zeros (key m : List UInt8) (n : Nat) (h : key.length + n ≤ 64) : hmac (key ++ List.replicate n 0) m = hmac key m := by
  have e : padK (key ++ List.replicate n 0) = padK key := by
    have e1 : keyOf (key ++ List.replicate n 0) = key ++ List.replicate n 0 := by
      unfold keyOf
      rw [if_neg (by rw [List.length_append, List.length_replicate]; omega)]
    have e2 : keyOf key = key := by
      unfold keyOf
      rw [if_neg (by omega)]
    unfold padK
    rw [e1, e2, List.append_assoc, List.length_append, List.length_replicate, List.replicate_append_replicate, show n + (64 - (key.length + n)) = 64 - key.length by omega]
  unfold hmac
  rw [e]

set_option maxRecDepth 100000 in
set_option maxHeartbeats 1000000 in
theorem tag_bad (kv pv : Value) (key : List UInt8) (w : World) (hk : BRd w kv key) (h : (key.length : Int) ≠ 32) :
    Calls Tryd.prog 43 #[kv, pv] w fun e w' => e = .returned (.tuple #[.slice none 0 0, .int .i64 1]) ∧ w' = w := by
  obtain ⟨ka, kc, rfl, hkc, hkm⟩ := hk.slice
  go_enter Tryd.func43, Tryd.ntmps43
  go_wp2
  go_ret2
  exact ⟨rfl, rfl⟩

set_option maxRecDepth 100000 in
set_option maxHeartbeats 1000000 in
theorem tag_ok (kv pv : Value) (key : List UInt8) (ls : List (List UInt8)) (w : World) (hk : BRd w kv key) (hp : BBRd w pv ls) (h0 : 0 < ls.length)
    (hll : ls.length ≤ 1000) (hfl : ls.flatten.length ≤ 10000000) (hT : Table w) (h : key.length = 32) :
    Calls Tryd.prog 43 #[kv, pv] w fun e w' => ∃ v, e = .returned (.tuple #[v, .int .i64 0]) ∧ BOwn w' w.heap.size v ((hmac key ls.flatten).take 16) ∧ Keeps (fun _ => False) w w' := by
  obtain ⟨ka, kc, rfl, hkc, hkm⟩ := hk.slice
  have H := Lib.hid h
  rw [h]
  rw [h] at hkc hk
  clear h
  go_enter Tryd.func43, Tryd.ntmps43
  go_wp2_with fail
  refine (full_any _ _ key ls _ hk hp h0 (by have := H.out; omega) hll hfl hT).mono ?_
  rintro e w3 ⟨v3, rfl, ho3, hk3⟩
  obtain ⟨g, off, c, rfl, hc, hm, hg⟩ := ho3.place (by rw [hmac_len]; omega)
  have hf := ho3.first 16 16 (by rw [hmac_len]; omega) (Nat.le_refl _) (by rw [hmac_len] at hc; omega)
  rw [hmac_len] at hc ho3 ⊢
  simp only [maxLen] at hm
  have hc16 : (16 : Int) ≤ c := by omega
  go_wp2
  go_ret2
  exact ⟨_, rfl, hf, hk3⟩
end Go.Proofs.YtekaoknpjpbjgaaDoor
