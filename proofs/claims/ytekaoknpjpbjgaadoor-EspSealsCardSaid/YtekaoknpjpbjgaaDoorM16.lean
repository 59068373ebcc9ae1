/- Words, walks and plain laws that the claim leans on, part 16. -/
import Derived.Test.YtekaoknpjpbjgaaDoorM1
import Derived.Test.YtekaoknpjpbjgaaDoorM12
import Derived.Test.YtekaoknpjpbjgaaDoorM13
import Derived.Test.YtekaoknpjpbjgaaDoorM15

/-! mac.Full. -/
namespace Go.Proofs.YtekaoknpjpbjgaaDoor
set_option linter.unusedVariables false
set_option linter.unusedSimpArgs false
open Go.RowKit

/-- The key as a block. -/
def keyOf (key : List UInt8) : List UInt8 := if 64 < key.length then sha key else key
def padK (key : List UInt8) : List UInt8 := keyOf key ++ List.replicate (64 - (keyOf key).length) 0
def hmac (key m : List UInt8) : List UInt8 := sha (withL (padK key) 92 ++ sha (withL (padK key) 54 ++ m))
theorem b4s_len (l : List UInt32) : (l.map b4).flatten.length = 4 * l.length := by
  induction l with
  | nil => rfl
  | cons x r ih => rw [List.map_cons, List.flatten_cons, List.length_append, ih, List.length_cons]; simp [b4]; omega
theorem sha_len (m : List UInt8) : (sha m).length = 32 := b4s_len _
theorem keyOf_len (key : List UInt8) : (keyOf key).length ≤ 64 := by
  unfold keyOf
  split
  · rw [sha_len]; omega
  · omega
theorem padK_len (key : List UInt8) : (padK key).length = 64 := by
  have := keyOf_len key
  unfold padK
  rw [List.length_append, List.length_replicate]; omega
theorem withL_len (k : List UInt8) (x : UInt8) : (withL k x).length = k.length := by simp [withL]

theorem BAt.low {w : World} {p : Nat → Prop} {v : Value} {l : List UInt8} (h : BAt w p v l) : BAt w (· < w.heap.size) v l := (SAt.lt h).mono fun _ h => h.2
theorem run_zeros_bytes {w : World} {base : Nat} {v : Value} {l : List UInt8} (k : Nat) (hown : BOwn w base v l) (hmax : l.length + k ≤ 1000000) (hbase : base ≤ w.heap.size) :
    ∃ v' w', (Builtin.append_ #[25, 3] 25 #[v, .int .i64 (k : Int)]).run Tryd.prog w = .ok v' w' ∧ BOwn w' base v' (l ++ List.replicate k 0) ∧ Keeps (fun b => v.ownBlock = some b) w w' := by
  obtain ⟨i, hi, hz, hs, hb⟩ := info_parts info_u8
  obtain ⟨v', w', hr, ha⟩ := run_append_zeros (P := Tryd.prog) (ty := 25) k Tryd.underlying25 Tryd.underlying3 hi hz hs hb (by rfl) (by rfl) hown (by omega) (by omega) hbase
  refine ⟨v', w', hr, ?_, ha.keeps⟩
  have := ha.own
  have e : bcells l ++ List.replicate k (Value.int .u8 0) = bcells (l ++ List.replicate k 0) := by rw [bcells_append]; simp [bcells, bcell]
  have e2 : l.length + k = (l ++ List.replicate k (0 : UInt8)).length := by simp
  rw [e, e2] at this
  exact this
theorem slice_one {w : World} {p : Nat → Prop} {v : Value} {l : List UInt8} (h : BAt w p v l) : v.oneCell' = true := by
  obtain ⟨a, c, rfl, -, -⟩ := h.slice
  rfl

theorem pad_step {w w5 : World} {K : Nat} {kv5 : Value} {k : List UInt8} (hK5 : RowAt w5 K #[kv5] 25) (ho5 : BOwn w5 w.heap.size kv5 k) (hk : k.length ≤ 64) (hkw5 : Keeps (fun _ => False) w w5) (hKw : w.heap.size ≤ K) :
    ∃ a6 c6 w6, (Builtin.append_ #[25, 3] 25 #[kv5, .int .i64 (64 - (k.length : Int))]).run Tryd.prog w5 = .ok (.slice a6 64 c6) w6 ∧ c6 ≤ 9223372036854775807 ∧ 64 ≤ c6 ∧ RowAt w6 K #[kv5] 25 ∧
      RowAt (w6.setCell ⟨K, 0, none⟩ (.slice a6 64 c6)) K #[.slice a6 64 c6] 25 ∧ BOwn (w6.setCell ⟨K, 0, none⟩ (.slice a6 64 c6)) w.heap.size (.slice a6 64 c6) (k ++ List.replicate (64 - k.length) 0) ∧
      Keeps (fun _ => False) w (w6.setCell ⟨K, 0, none⟩ (.slice a6 64 c6)) := by
  obtain ⟨kv6, w6, hrun6, ho6, hk6⟩ := run_zeros_bytes (64 - k.length) ho5 (by omega) hkw5.size
  obtain ⟨a6, c6, rfl, hc6, hm6⟩ := ho6.slice
  have hl : (k ++ List.replicate (64 - k.length) (0 : UInt8)).length = 64 := by rw [List.length_append, List.length_replicate]; omega
  rw [hl] at hrun6 ho6 hc6
  rw [show ((64 - k.length : Nat) : Int) = 64 - (k.length : Int) by omega] at hrun6
  have hK6 := hK5.keeps hk6 (ho5.apart hK5 (by decide))
  have hap := ho6.apart hK6 (by decide)
  refine ⟨a6, c6, w6, hrun6, by simpa [maxLen] using hm6, hc6, hK6, hK6.set 0 _, ?_, ?_⟩
  · exact ho6.keeps (Keeps.setCell (S := (· = K)) (Keeps.refl _ w6) ⟨K, 0, none⟩ _ (.inl rfl)) (fun b hb e => hap (by rw [← e]; exact hb))
  · exact (hkw5.from hk6 (fun b hb => (ho5.block b hb).1)).setCell _ _ (.inr hKw)

theorem BBAt.cons {w : World} {p q : Nat → Prop} {v x : Value} {vs : List Value} {l : List UInt8} {ls : List (List UInt8)} (hs : SAt w p 1 v (vs.length + 1) (x :: vs)) (hl : vs.length = ls.length) (hx : BAt w q x l)
    (hb : ∀ (i : Nat) (x : Value) (l : List UInt8), vs[i]? = some x → ls[i]? = some l → BAt w q x l) : BBAt w p q v (l :: ls) := by
  refine ⟨x :: vs, by simp [hl], by simpa using hs, fun i y m hy hm => ?_⟩
  cases i with
  | zero => simp at hy hm; subst hy hm; exact hx
  | succ i => exact hb i y m (by simpa using hy) (by simpa using hm)
theorem BBAt.pair {w : World} {q : Nat → Prop} {T : TypeId} {x y : Value} {l m : List UInt8} (hx : BAt w q x l) (hy : BAt w q y m) :
    BBAt (w.alloc (.cells #[x, y] T)) (fun b => b = w.heap.size) q (.slice (some ⟨w.heap.size, 0, none⟩) 2 2) [l, m] := by
  have hk := (Keeps.refl (fun _ => False) w).alloc (.cells #[x, y] T)
  refine BBAt.cons (vs := [y]) (x := x) (SAt.of_row (RowAt.new w _ _) 0 2 2 [x, y] rfl (Nat.le_refl _) (by simp [maxLen]) rfl (fun j hj => by rw [Nat.zero_add]; exact List.getElem?_toArray)) rfl (hx.keeps hk (fun _ _ h => h)) (fun i z n hz hn => ?_)
  cases i with
  | zero => simp at hz hn; subst hz hn; exact hy.keeps hk (fun _ _ h => h)
  | succ i => simp at hz
theorem BBAt.one {w : World} {q : Nat → Prop} {T : TypeId} {x : Value} {l : List UInt8} (hx : BAt w q x l) :
    BBAt (w.alloc (.cells #[x] T)) (fun b => b = w.heap.size) q (.slice (some ⟨w.heap.size, 0, none⟩) 1 1) [l] := by
  have hk := (Keeps.refl (fun _ => False) w).alloc (.cells #[x] T)
  exact BBAt.cons (vs := []) (x := x) (SAt.of_row (RowAt.new w _ _) 0 1 1 [x] rfl (Nat.le_refl _) (by simp [maxLen]) rfl (fun j hj => by rw [Nat.zero_add]; exact List.getElem?_toArray)) rfl (hx.keeps hk (fun _ _ h => h)) (fun i z n hz hn => by simp at hz)
theorem BBAt.low {w : World} {p q : Nat → Prop} {v : Value} {ls : List (List UInt8)} (h : BBAt w p q v ls) : BBAt w (· < w.heap.size) (· < w.heap.size) v ls := by
  obtain ⟨vs, h1, h2, h3⟩ := h
  exact ⟨vs, h1, (SAt.lt h2).mono fun _ h => h.2, fun i x l hx hl => (h3 i x l hx hl).low⟩

theorem slice_cells {w : World} {p : Nat → Prop} {v : Value} {l : List UInt8} (h : BAt w p v l) : v.cells = #[v] := by
  obtain ⟨a, c, rfl, -, -⟩ := h.slice
  rfl


set_option maxRecDepth 100000 in
set_option maxHeartbeats 2000000 in
theorem full_any (kv pv : Value) (key : List UInt8) (ls : List (List UInt8)) (w : World) (hk : BAt w (· < w.heap.size) kv key) (hp : BBAt w (· < w.heap.size) (· < w.heap.size) pv ls) (h0 : 0 < ls.length)
    (hkl : key.length ≤ 100000) (hll : ls.length ≤ 1000) (hfl : ls.flatten.length ≤ 10000000) (hT : Table w) :
    Calls Tryd.prog 50 #[kv, pv] w (Gives (hmac key ls.flatten) w) := by
  obtain ⟨ka, kc, rfl, hkc, hkm⟩ := hk.slice
  have hB0 : 0 < w.heap.size := World.block_lt_of_cell? w _ (hT 0 (by omega))
  have hko := keyOf_len key
  simp only [maxLen] at hkm
  go_enter Tryd.func50, Tryd.ntmps50
  by_cases hlong : 64 < key.length
  · have hlong' : (64 : Int) < (key.length : Int) := by omega
    have hke : padK key = sha key ++ List.replicate (64 - (sha key).length) 0 := by unfold padK keyOf; rw [if_pos hlong]
    have hsl := sha_len key
    go_wp2_with (go_at_call 44; refine (clone_any _ key _ _ hk (by omega)).mono ?_; rintro e w1 ⟨v1, rfl, ho1, hk1⟩; obtain ⟨a1, c1, rfl, hc1, hm1⟩ := ho1.slice; have hT1 := hT.keeps hk1)
    have hK1 := RowAt.new w1 #[.slice a1 key.length c1] 25
    have hk2 := hk1.alloc (.cells #[.slice a1 key.length c1] 25)
    have hs2 : (w1.alloc (.cells #[.slice a1 key.length c1] 25)).heap.size = w1.heap.size + 1 := size_alloc _ _
    have hbb := BBAt.one (T := 25) (hk.keeps hk2 (fun _ _ h => h))
    rw [hs2] at hbb
    refine (of_any _ [key] _ hbb.low (by simp; omega) (hT.keeps (hk2.alloc _))).mono ?_
    rintro e w3 ⟨v3, rfl, ho3, hk3⟩
    rw [show [key].flatten = key by simp] at ho3
    obtain ⟨a3, c3, rfl, hc3, hm3⟩ := ho3.slice
    have hK3 := (hK1.alloc (.cells #[.slice ka key.length kc] 25)).keeps hk3 (fun h => h)
    have hkw3 : Keeps (fun _ => False) w w3 := (hk2.alloc _).trans hk3 (fun _ _ h => h)
    have hap := ho3.apart hK3 (by decide)
    have hK5 := hK3.set 0 (.slice a3 (sha key).length c3)
    have ho5 : BOwn (w3.setCell ⟨w1.heap.size, 0, none⟩ (.slice a3 (sha key).length c3)) w.heap.size (.slice a3 (sha key).length c3) (sha key) :=
      (ho3.keeps (Keeps.setCell (S := (· = w1.heap.size)) (Keeps.refl _ w3) ⟨w1.heap.size, 0, none⟩ _ (.inl rfl)) (fun b hb e => hap (by rw [← e]; exact hb))).mono (hk2.alloc _).size
    have hkw5 : Keeps (fun _ => False) w (w3.setCell ⟨w1.heap.size, 0, none⟩ (.slice a3 (sha key).length c3)) := hkw3.setCell _ _ (.inr hk1.size)
    have hK5' : RowAt (w3.setCell ⟨w1.heap.size, 0, none⟩ (.slice a3 (sha key).length c3)) w1.heap.size #[.slice a3 (sha key).length c3] 25 := hK5
    obtain ⟨a6, c6, w6, hrun6, hc6, h64, hK6, hK7, ho7, hkw7⟩ := pad_step hK5' ho5 (by omega) hkw5 hk1.size
    have ck3 := hK3.one
    have fk3 := hK3.frozen 0
    have ck6 := hK6.one
    have fk6 := hK6.frozen 0
    rw [← hke] at ho7
    rw [hsl, show (64 : Int) - ((32 : Nat) : Int) = 32 from rfl] at hrun6
    have HR6 := Lib.hid hrun6
    have hc3' := hc3
    rw [hsl] at hc3 ck6 ⊢
    simp only [maxLen] at hm3
    clear hrun6 hke hbb hlong' hK5' hK6 ho5 hK5 hkw5 hc3'
    have hsl' := Lib.hid hsl
    clear hsl
    go_wp2_with (at_builtin; refine Lib.wpList_append_run _ rfl _ _ _ _ rfl _ _ rfl rfl _ _ HR6.out ?_)
    have hK7w : w1.heap.size < (w6.setCell ⟨w1.heap.size, 0, none⟩ (.slice a6 64 c6)).heap.size := hK7.lt
    generalize w6.setCell ⟨w1.heap.size, 0, none⟩ (.slice a6 64 c6) = w7 at hK7 ho7 hkw7 hK7w ⊢
    obtain ⟨vs, hvl, hvs, hvb⟩ := hp
    have hone : ∀ u ∈ vs, u.oneCell' = true := by
      intro u hu
      obtain ⟨i, hi, rfl⟩ := List.getElem_of_mem hu
      exact slice_one (hvb i _ (ls[i]'(by omega)) (by simp) (by simp))
    refine (cloneB_any pv vs.length vs _ _ (hvs.keeps hkw7 (fun _ _ h => h)) hone (by omega) (by omega)).mono ?_
    rintro e w8 ⟨v8, rfl, ho8, hk8⟩
    have hlow8 : ∀ b, v8.ownBlock = some b → w7.heap.size ≤ b ∧ b < w8.heap.size := fun b hb => ho8.block b hb
    have hK8 := hK7.keeps hk8 (fun h => h)
    have ho78 := ho7.keeps hk8 (fun _ _ h => h)
    go_wp2_with fail
    refine (with_any 54 w1.heap.size _ (padK key) _ _ hK8 ho78.bat (by rw [padK_len]; omega)).mono ?_
    rintro e w9 ⟨v9, rfl, ho9, hk9⟩
    obtain ⟨a9, c9, rfl, -, -⟩ := ho9.slice
    have hs9 := hk9.size
    have hs8 := hk8.size
    have hsw := hkw7.size
    go_wp2_with fail
    refine (insert_any v8 _ vs.length w9.heap.size w7.heap.size vs _ ((ho8.keeps hk9 (fun _ _ h => h)).keeps ((Keeps.refl (fun _ => False) w9).alloc _) (fun _ _ h => h)) (RowAt.new w9 _ _) (fun e => by have := (hlow8 _ e).2; omega) (by omega) (by omega) (by rw [size_alloc]; omega) (slice_one ho9.bat)).mono ?_
    rintro e w10 ⟨v10, rfl, hs10, hk10⟩
    have hk1 : Keeps (fun _ => False) w w10 := (((hkw7.trans hk8 (fun _ _ h => h)).trans hk9 (fun _ _ h => h)).alloc _).from hk10 (fun b hb => by have := (hlow8 b hb).1; omega)
    have ho910 := (ho9.keeps ((Keeps.refl (fun _ => False) w9).alloc (.cells #[.slice a9 (withL (padK key) 54).length c9] 25)) (fun _ _ h => h)).keeps hk10 (fun b hb e => by have := (hlow8 b e).2; have := (ho9.block b hb).1; omega)
    go_wp2_with fail
    have hbb : BBAt w10 (· < w10.heap.size) (· < w10.heap.size) v10 (withL (padK key) 54 :: ls) :=
      (BBAt.cons (q := fun _ => True) hs10 hvl (ho910.bat.mono fun _ _ => trivial) (fun i x l hx hl => ((hvb i x l hx hl).keeps hk1 (fun _ _ h => h)).mono fun _ _ => trivial)).low
    refine (of_any v10 _ w10 hbb (by rw [List.flatten_cons, List.length_append, withL_len, padK_len]; omega) (hT.keeps hk1)).mono ?_
    rintro e w11 ⟨v11, rfl, ho11, hk11⟩
    obtain ⟨a11, c11, rfl, -, -⟩ := ho11.slice
    have hK11 := (((hK8.keeps hk9 (fun h => h)).alloc (.cells #[.slice a9 (withL (padK key) 54).length c9] 25)).keeps hk10 (fun e => by have := (hlow8 _ e).1; omega)).keeps hk11 (fun h => h)
    have ho711 := (((ho78.keeps hk9 (fun _ _ h => h)).keeps ((Keeps.refl (fun _ => False) w9).alloc (.cells #[.slice a9 (withL (padK key) 54).length c9] 25)) (fun _ _ h => h)).keeps hk10 (fun b hb e => by have := (hlow8 b e).1; have := (ho7.block b hb).2; omega)).keeps hk11 (fun _ _ h => h)
    go_wp2_with fail
    refine (with_any 92 w1.heap.size _ (padK key) _ _ hK11 ho711.bat (by rw [padK_len]; omega)).mono ?_
    rintro e w12 ⟨v12, rfl, ho12, hk12⟩
    obtain ⟨a12, c12, rfl, -, -⟩ := ho12.slice
    go_wp2_with fail
    have hk2 : Keeps (fun _ => False) w (w12.alloc (.cells #[.slice a12 (withL (padK key) 92).length c12, .slice a11 (sha (withL (padK key) 54 ++ ls.flatten)).length c11] 25)) := ((hk1.trans hk11 (fun _ _ h => h)).trans hk12 (fun _ _ h => h)).alloc _
    refine (of_any _ [withL (padK key) 92, sha (withL (padK key) 54 ++ ls.flatten)] _ (BBAt.low (BBAt.pair (q := fun _ => True) (ho12.bat.mono fun _ _ => trivial) ((ho11.keeps hk12 (fun _ _ h => h)).bat.mono fun _ _ => trivial))) (by rw [List.flatten_cons, List.length_append, withL_len, padK_len]; simp [sha_len]) (hT.keeps hk2)).mono ?_
    rintro e w13 ⟨v13, rfl, ho13, hk13⟩
    go_wp2_with fail
    go_ret
    refine ⟨_, rfl, ?_, hk2.trans hk13 (fun _ _ h => h)⟩
    have hfl2 : [withL (padK key) 92, sha (withL (padK key) 54 ++ ls.flatten)].flatten = withL (padK key) 92 ++ sha (withL (padK key) 54 ++ ls.flatten) := by simp
    rw [hfl2] at ho13
    exact ho13.mono hk2.size
  · have hlong' : (key.length : Int) ≤ 64 := by omega
    have hke : padK key = key ++ List.replicate (64 - key.length) 0 := by unfold padK keyOf; rw [if_neg hlong]
    go_wp2_with (first | (go_at_call 44; refine (clone_any _ key _ _ hk (by omega)).mono ?_; rintro e w1 ⟨v1, rfl, ho1, hk1⟩; obtain ⟨a1, c1, rfl, hc1, hm1⟩ := ho1.slice; have hT1 := hT.keeps hk1; have hK5 := RowAt.new w1 #[.slice a1 key.length c1] 25; have ho5 := ho1.keeps ((Keeps.refl (fun _ => False) w1).alloc (.cells #[.slice a1 key.length c1] 25)) (fun _ _ h => h); have hkw5 := hk1.alloc (.cells #[.slice a1 key.length c1] 25); obtain ⟨a6, c6, w6, hrun6, hc6, h64, hK6, hK7, ho7, hkw7⟩ := pad_step hK5 ho5 (by omega) hkw5 hk1.size; have ck6 := hK6.one; have fk6 := hK6.frozen 0; have HR6 := Lib.hid hrun6; clear hrun6) | (at_builtin; refine Lib.wpList_append_run _ rfl _ _ _ _ rfl _ _ rfl rfl _ _ HR6.out ?_))
    rw [← hke] at ho7
    clear hke
    have hK7w : w1.heap.size < (w6.setCell ⟨w1.heap.size, 0, none⟩ (.slice a6 64 c6)).heap.size := hK7.lt
    generalize w6.setCell ⟨w1.heap.size, 0, none⟩ (.slice a6 64 c6) = w7 at hK7 ho7 hkw7 hK7w ⊢
    obtain ⟨vs, hvl, hvs, hvb⟩ := hp
    have hone : ∀ u ∈ vs, u.oneCell' = true := by
      intro u hu
      obtain ⟨i, hi, rfl⟩ := List.getElem_of_mem hu
      exact slice_one (hvb i _ (ls[i]'(by omega)) (by simp) (by simp))
    refine (cloneB_any pv vs.length vs _ _ (hvs.keeps hkw7 (fun _ _ h => h)) hone (by omega) (by omega)).mono ?_
    rintro e w8 ⟨v8, rfl, ho8, hk8⟩
    have hlow8 : ∀ b, v8.ownBlock = some b → w7.heap.size ≤ b ∧ b < w8.heap.size := fun b hb => ho8.block b hb
    have hK8 := hK7.keeps hk8 (fun h => h)
    have ho78 := ho7.keeps hk8 (fun _ _ h => h)
    go_wp2_with fail
    refine (with_any 54 w1.heap.size _ (padK key) _ _ hK8 ho78.bat (by rw [padK_len]; omega)).mono ?_
    rintro e w9 ⟨v9, rfl, ho9, hk9⟩
    obtain ⟨a9, c9, rfl, -, -⟩ := ho9.slice
    have hs9 := hk9.size
    have hs8 := hk8.size
    have hsw := hkw7.size
    go_wp2_with fail
    refine (insert_any v8 _ vs.length w9.heap.size w7.heap.size vs _ ((ho8.keeps hk9 (fun _ _ h => h)).keeps ((Keeps.refl (fun _ => False) w9).alloc _) (fun _ _ h => h)) (RowAt.new w9 _ _) (fun e => by have := (hlow8 _ e).2; omega) (by omega) (by omega) (by rw [size_alloc]; omega) (slice_one ho9.bat)).mono ?_
    rintro e w10 ⟨v10, rfl, hs10, hk10⟩
    have hk1 : Keeps (fun _ => False) w w10 := (((hkw7.trans hk8 (fun _ _ h => h)).trans hk9 (fun _ _ h => h)).alloc _).from hk10 (fun b hb => by have := (hlow8 b hb).1; omega)
    have ho910 := (ho9.keeps ((Keeps.refl (fun _ => False) w9).alloc (.cells #[.slice a9 (withL (padK key) 54).length c9] 25)) (fun _ _ h => h)).keeps hk10 (fun b hb e => by have := (hlow8 b e).2; have := (ho9.block b hb).1; omega)
    go_wp2_with fail
    have hbb : BBAt w10 (· < w10.heap.size) (· < w10.heap.size) v10 (withL (padK key) 54 :: ls) :=
      (BBAt.cons (q := fun _ => True) hs10 hvl (ho910.bat.mono fun _ _ => trivial) (fun i x l hx hl => ((hvb i x l hx hl).keeps hk1 (fun _ _ h => h)).mono fun _ _ => trivial)).low
    refine (of_any v10 _ w10 hbb (by rw [List.flatten_cons, List.length_append, withL_len, padK_len]; omega) (hT.keeps hk1)).mono ?_
    rintro e w11 ⟨v11, rfl, ho11, hk11⟩
    obtain ⟨a11, c11, rfl, -, -⟩ := ho11.slice
    have hK11 := (((hK8.keeps hk9 (fun h => h)).alloc (.cells #[.slice a9 (withL (padK key) 54).length c9] 25)).keeps hk10 (fun e => by have := (hlow8 _ e).1; omega)).keeps hk11 (fun h => h)
    have ho711 := (((ho78.keeps hk9 (fun _ _ h => h)).keeps ((Keeps.refl (fun _ => False) w9).alloc (.cells #[.slice a9 (withL (padK key) 54).length c9] 25)) (fun _ _ h => h)).keeps hk10 (fun b hb e => by have := (hlow8 b e).1; have := (ho7.block b hb).2; omega)).keeps hk11 (fun _ _ h => h)
    go_wp2_with fail
    refine (with_any 92 w1.heap.size _ (padK key) _ _ hK11 ho711.bat (by rw [padK_len]; omega)).mono ?_
    rintro e w12 ⟨v12, rfl, ho12, hk12⟩
    obtain ⟨a12, c12, rfl, -, -⟩ := ho12.slice
    go_wp2_with fail
    have hk2 : Keeps (fun _ => False) w (w12.alloc (.cells #[.slice a12 (withL (padK key) 92).length c12, .slice a11 (sha (withL (padK key) 54 ++ ls.flatten)).length c11] 25)) := ((hk1.trans hk11 (fun _ _ h => h)).trans hk12 (fun _ _ h => h)).alloc _
    refine (of_any _ [withL (padK key) 92, sha (withL (padK key) 54 ++ ls.flatten)] _ (BBAt.low (BBAt.pair (q := fun _ => True) (ho12.bat.mono fun _ _ => trivial) ((ho11.keeps hk12 (fun _ _ h => h)).bat.mono fun _ _ => trivial))) (by rw [List.flatten_cons, List.length_append, withL_len, padK_len]; simp [sha_len]) (hT.keeps hk2)).mono ?_
    rintro e w13 ⟨v13, rfl, ho13, hk13⟩
    go_wp2_with fail
    go_ret
    refine ⟨_, rfl, ?_, hk2.trans hk13 (fun _ _ h => h)⟩
    have hfl2 : [withL (padK key) 92, sha (withL (padK key) 54 ++ ls.flatten)].flatten = withL (padK key) 92 ++ sha (withL (padK key) 54 ++ ls.flatten) := by simp
    rw [hfl2] at ho13
    exact ho13.mono hk2.size

end Go.Proofs.YtekaoknpjpbjgaaDoor

/-! The document's example, reckoned. -/
namespace Go.Proofs.YtekaoknpjpbjgaaDoor
set_option linter.unusedVariables false
set_option linter.unusedSimpArgs false
open Go.RowKit

def exKey : List UInt8 := List.replicate 20 11
def exMsg : List UInt8 := [72, 105, 32, 84, 104, 101, 114, 101]
/-- What the document says. -/
def exTag : List UInt8 := [0xb0, 0x34, 0x4c, 0x61, 0xd8, 0xdb, 0x38, 0x53, 0x5c, 0xa8, 0xaf, 0xce, 0xaf, 0x0b, 0xf1, 0x2b, 0x88, 0x1d, 0xc2, 0x00, 0xc9, 0x83, 0x3d, 0xa7, 0x26, 0xe9, 0x37, 0x6c, 0x2e, 0x32, 0xcf, 0xf7]
set_option maxRecDepth 1000000 in
theorem ex_tag : hmac exKey exMsg = exTag := by decide +kernel

end Go.Proofs.YtekaoknpjpbjgaaDoor

/-! Esp in plain words: padding, the stream, what is sealed and opened. -/
namespace Go.Proofs.YtekaoknpjpbjgaaDoor
set_option linter.unusedVariables false
set_option linter.unusedSimpArgs false

/-! Padding. -/
def padLen (n : Nat) : Nat := (n + 5) / 4 * 4
def padN (n : Nat) : Nat := padLen n - n - 2
def padTail (n : Nat) : List UInt8 := (List.range n).map fun i => UInt8.ofNat (i + 1)
def padF (data : List UInt8) (next : UInt8) : List UInt8 := data ++ padTail (padN data.length) ++ [UInt8.ofNat (padN data.length), next]
theorem padLen_bd (n : Nat) : n + 2 ≤ padLen n ∧ padLen n ≤ n + 5 ∧ padLen n % 4 = 0 := by unfold padLen; omega
theorem padN_lt (n : Nat) : padN n < 4 := by have := padLen_bd n; unfold padN; omega
theorem padTail_len (n : Nat) : (padTail n).length = n := by simp [padTail]
theorem padF_len (data : List UInt8) (next : UInt8) : (padF data next).length = padLen data.length := by
  have := padLen_bd data.length
  simp only [padF, List.length_append, padTail_len, List.length_cons, List.length_nil, padN]
  omega
/-- What is opened: the bytes and what stands behind, or nothing. -/
def padOpen (b : List UInt8) : Option (List UInt8 × UInt8) :=
  let n := (at8 b (b.length - 2)).toNat
  if b.length < 2 then none else if b.length - 2 < n then none else
    if (b.drop (b.length - 2 - n)).take n = padTail n then some (b.take (b.length - 2 - n), at8 b (b.length - 1)) else none
theorem padOpen_padF (data : List UInt8) (next : UInt8) : padOpen (padF data next) = some (data, next) := by
  have hl := padF_len data next
  have hb := padLen_bd data.length
  have h4 := padN_lt data.length
  have hN : padN data.length + data.length + 2 = padLen data.length := by unfold padN; omega
  have hA : (data ++ padTail (padN data.length)).length = padLen data.length - 2 := by rw [List.length_append, padTail_len]; omega
  have e1 : at8 (padF data next) (padLen data.length - 2) = UInt8.ofNat (padN data.length) := by
    unfold at8
    rw [List.getD_eq_getElem?_getD]
    unfold padF
    rw [List.getElem?_append_right (by omega), hA, show padLen data.length - 2 - (padLen data.length - 2) = 0 by omega]
    rfl
  have e2 : at8 (padF data next) (padLen data.length - 1) = next := by
    unfold at8
    rw [List.getD_eq_getElem?_getD]
    unfold padF
    rw [List.getElem?_append_right (by omega), hA, show padLen data.length - 1 - (padLen data.length - 2) = 1 by omega]
    rfl
  have e3 : (UInt8.ofNat (padN data.length)).toNat = padN data.length := by
    rw [UInt8.toNat_ofNat']; exact Nat.mod_eq_of_lt (by omega)
  unfold padOpen
  simp only [e1, e2, e3, hl]
  rw [if_neg (by omega), if_neg (by omega)]
  have e4 : padLen data.length - 2 - padN data.length = data.length := by omega
  rw [e4]
  have e5 : ((padF data next).drop data.length).take (padN data.length) = padTail (padN data.length) := by
    unfold padF
    rw [List.append_assoc, List.drop_left, List.take_append_of_le_length (by rw [padTail_len]; omega), List.take_of_length_le (by rw [padTail_len]; omega)]
  have e6 : (padF data next).take data.length = data := by
    unfold padF
    rw [List.append_assoc, List.take_left]
  rw [e5, if_pos rfl, e6]

/-! The stream. -/
def be4 (n : Nat) : List UInt8 := [UInt8.ofNat (n / 16777216), UInt8.ofNat (n / 65536), UInt8.ofNat (n / 256), UInt8.ofNat n]
def be8 (n : Nat) : List UInt8 := be4 (n / 4294967296) ++ be4 n
def blocksOf (keys salt iv : List UInt8) (m : Nat) : List UInt8 := (List.range m).flatMap fun i => blockOf keys (salt ++ iv ++ be4 (i + 1))
theorem blocksOf_succ (keys salt iv : List UInt8) (m : Nat) : blocksOf keys salt iv (m + 1) = blocksOf keys salt iv m ++ blockOf keys (salt ++ iv ++ be4 (m + 1)) := by
  simp [blocksOf, List.range_succ]
theorem blocksOf_len (keys salt iv : List UInt8) : ∀ m, (blocksOf keys salt iv m).length = 16 * m
  | 0 => rfl
  | m + 1 => by rw [blocksOf_succ, List.length_append, blocksOf_len keys salt iv m, blockOf_len]; omega
def streamOf (key salt iv : List UInt8) (n : Nat) : List UInt8 := (blocksOf (keysOf key) salt iv ((n + 15) / 16)).take n
theorem streamOf_len (key salt iv : List UInt8) (n : Nat) : (streamOf key salt iv n).length = n := by
  rw [streamOf, List.length_take, blocksOf_len]; omega
def turnOf (key salt iv b : List UInt8) : List UInt8 := List.zipWith (· ^^^ ·) (streamOf key salt iv b.length) b
theorem turnOf_len (key salt iv b : List UInt8) : (turnOf key salt iv b).length = b.length := by
  rw [turnOf, List.length_zipWith, streamOf_len, Nat.min_self]
theorem xor_xor : ∀ s b : List UInt8, s.length = b.length → List.zipWith (· ^^^ ·) s (List.zipWith (· ^^^ ·) s b) = b
  | [], [], _ => rfl
  | x :: s, y :: b, h => by
    have := xor_xor s b (by simpa using h)
    simp only [List.zipWith_cons_cons, this, List.cons.injEq, and_true]
    rw [← UInt8.xor_assoc]
    simp
theorem turnOf_turnOf (key salt iv b : List UInt8) : turnOf key salt iv (turnOf key salt iv b) = b := by
  have h : turnOf key salt iv (turnOf key salt iv b) = List.zipWith (· ^^^ ·) (streamOf key salt iv b.length) (turnOf key salt iv b) := by
    rw [turnOf, turnOf_len]
  rw [h]
  exact xor_xor _ _ (streamOf_len _ _ _ _)

/-! Associations. -/
structure SaV where
  spi : Int
  key : List UInt8
  salt : List UInt8
  mac : List UInt8
  esn : Bool
  window : Int
def mayS (sa : SaV) : Bool :=
  decide (256 ≤ sa.spi) && decide (sa.spi ≤ 4294967295) && (decide (sa.key.length = 16) || decide (sa.key.length = 32)) && decide (sa.salt.length = 4) && decide (sa.mac.length = 32) && decide (64 ≤ sa.window) && decide (sa.window ≤ 1024)
def okN (sa : SaV) (seq : Nat) : Bool := mayS sa && decide (1 ≤ seq) && (sa.esn || decide (seq ≤ 4294967295))
def highOf (sa : SaV) (seq : Nat) : List UInt8 := if sa.esn then be4 (seq / 4294967296) else []
def tagS (sa : SaV) (seq : Nat) (b : List UInt8) : List UInt8 := (hmac sa.mac (b ++ highOf sa seq)).take 16
def frontS (sa : SaV) (seq : Nat) (data : List UInt8) (next : UInt8) : List UInt8 :=
  be4 sa.spi.toNat ++ be4 seq ++ be8 seq ++ turnOf sa.key sa.salt (be8 seq) (padF data next)
def sealS (sa : SaV) (seq : Nat) (data : List UInt8) (next : UInt8) : List UInt8 := frontS sa seq data next ++ tagS sa seq (frontS sa seq data next)
def lenS (n : Nat) : Nat := 32 + padLen n
theorem tagS_len (sa : SaV) (seq : Nat) (b : List UInt8) : (tagS sa seq b).length = 16 := by
  have : (hmac sa.mac (b ++ highOf sa seq)).length = 32 := sha_len _
  rw [tagS, List.length_take, this]
  rfl
theorem be4_len (n : Nat) : (be4 n).length = 4 := rfl
theorem be8_len (n : Nat) : (be8 n).length = 8 := rfl
theorem frontS_len (sa : SaV) (seq : Nat) (data : List UInt8) (next : UInt8) : (frontS sa seq data next).length = 16 + padLen data.length := by
  simp only [frontS, List.length_append, be4_len, be8_len, turnOf_len, padF_len]
theorem sealS_len (sa : SaV) (seq : Nat) (data : List UInt8) (next : UInt8) : (sealS sa seq data next).length = lenS data.length := by
  rw [sealS, List.length_append, frontS_len, tagS_len, lenS]; omega
/-- A number of four bytes. -/
def val4 (b : List UInt8) : Nat := 16777216 * (at8 b 0).toNat + 65536 * (at8 b 1).toNat + 256 * (at8 b 2).toNat + (at8 b 3).toNat
theorem val4_be4 (n : Nat) (r : List UInt8) : val4 (be4 n ++ r) = n % 4294967296 := by
  simp [val4, be4, at8, UInt8.toNat_ofNat']
  omega
end Go.Proofs.YtekaoknpjpbjgaaDoor

/-! What is opened, in plain words; what is sealed is opened as itself. -/
namespace Go.Proofs.YtekaoknpjpbjgaaDoor
set_option linter.unusedVariables false
set_option linter.unusedSimpArgs false

/-- How an opening ends: the error's number, the bytes, what stands behind. -/
def openS (sa : SaV) (seq : Nat) (b : List UInt8) : Int × List UInt8 × Nat :=
  if okN sa seq = false then (1, [], 0)
  else if b.length < 36 then (8, [], 0)
  else if b.length % 4 ≠ 0 ∨ (val4 b : Int) ≠ sa.spi ∨ val4 (b.drop 4) ≠ seq % 4294967296 then (4, [], 0)
  else if b.drop (b.length - 16) ≠ tagS sa seq (b.take (b.length - 16)) then (110, [], 0)
  else match padOpen (turnOf sa.key sa.salt ((b.drop 8).take 8) ((b.take (b.length - 16)).drop 16)) with
    | some (d, x) => (0, d, x.toNat)
    | none => (130, [], 0)

theorem okN_spi {sa : SaV} {seq : Nat} (h : okN sa seq = true) : 256 ≤ sa.spi ∧ sa.spi ≤ 4294967295 := by
  unfold okN mayS at h
  simp only [Bool.and_eq_true, Bool.or_eq_true, decide_eq_true_eq] at h
  omega

theorem padLen_le (n : Nat) : 4 ≤ padLen n := by unfold padLen; omega
theorem sealS_low (sa : SaV) (seq : Nat) (data : List UInt8) (x : UInt8) (h : okN sa seq = true) : (val4 (sealS sa seq data x) : Int) = sa.spi ∧ val4 ((sealS sa seq data x).drop 4) = seq % 4294967296 := by
  obtain ⟨h1, h2⟩ := okN_spi h
  unfold sealS frontS
  refine ⟨?_, ?_⟩
  · rw [List.append_assoc, List.append_assoc, List.append_assoc, val4_be4]
    omega
  · rw [List.append_assoc, List.append_assoc, List.append_assoc, List.drop_left' (be4_len _), val4_be4]

theorem openS_sealS (sa : SaV) (seq : Nat) (data : List UInt8) (x : UInt8) (h : okN sa seq = true) : openS sa seq (sealS sa seq data x) = (0, data, x.toNat) := by
  obtain ⟨e1, e2⟩ := sealS_low sa seq data x h
  have hl := sealS_len sa seq data x
  have hb := padLen_bd data.length
  have h4 := padLen_le data.length
  have hL : lenS data.length = 32 + padLen data.length := rfl
  have hF := frontS_len sa seq data x
  have hdr : (sealS sa seq data x).drop ((sealS sa seq data x).length - 16) = tagS sa seq (frontS sa seq data x) := by
    rw [hl, sealS, List.drop_left' (by rw [hF]; omega)]
  have htk : (sealS sa seq data x).take ((sealS sa seq data x).length - 16) = frontS sa seq data x := by
    rw [hl, sealS, List.take_left' (by rw [hF]; omega)]
  have hiv : ((sealS sa seq data x).drop 8).take 8 = be8 seq := by
    unfold sealS frontS
    rw [List.append_assoc, List.append_assoc, List.drop_left' (by simp [be4_len]), List.take_left' (be8_len _)]
  have hmid : (frontS sa seq data x).drop 16 = turnOf sa.key sa.salt (be8 seq) (padF data x) := by
    unfold frontS
    rw [List.drop_left' (by simp [be4_len, be8_len])]
  unfold openS
  rw [h, if_neg (by decide), if_neg (by omega), if_neg (by omega), hdr, htk, if_neg (fun e => e rfl), hiv, hmid, turnOf_turnOf, padOpen_padF]

/-- With another number it is another form. -/
theorem openS_low (sa : SaV) (seq other : Nat) (data : List UInt8) (x : UInt8) (h : okN sa seq = true) (ho : okN sa other = true) (hd : seq % 4294967296 ≠ other % 4294967296) : openS sa other (sealS sa seq data x) = (4, [], 0) := by
  obtain ⟨e1, e2⟩ := sealS_low sa seq data x h
  have hl := sealS_len sa seq data x
  have h4 := padLen_le data.length
  have hL : lenS data.length = 32 + padLen data.length := rfl
  unfold openS
  rw [ho, if_neg (by decide), if_neg (by omega), if_pos (.inr (.inr (by rw [e2]; exact hd)))]

/-- Whatever is opened has a tag that holds. -/
theorem openS_tag {sa : SaV} {seq : Nat} {b : List UInt8} (h : (openS sa seq b).1 = 0) : okN sa seq = true ∧ 36 ≤ b.length ∧ b.drop (b.length - 16) = tagS sa seq (b.take (b.length - 16)) := by
  unfold openS at h
  by_cases h1 : okN sa seq = false
  · rw [if_pos h1] at h; exact absurd h (by decide)
  rw [if_neg h1] at h
  by_cases h2 : b.length < 36
  · rw [if_pos h2] at h; exact absurd h (by decide)
  rw [if_neg h2] at h
  by_cases h3 : b.length % 4 ≠ 0 ∨ (val4 b : Int) ≠ sa.spi ∨ val4 (b.drop 4) ≠ seq % 4294967296
  · rw [if_pos h3] at h; exact absurd h (by decide)
  rw [if_neg h3] at h
  by_cases h4 : b.drop (b.length - 16) ≠ tagS sa seq (b.take (b.length - 16))
  · rw [if_pos h4] at h; exact absurd h (by decide)
  exact ⟨by simpa using h1, by omega, by simpa using h4⟩
end Go.Proofs.YtekaoknpjpbjgaaDoor
