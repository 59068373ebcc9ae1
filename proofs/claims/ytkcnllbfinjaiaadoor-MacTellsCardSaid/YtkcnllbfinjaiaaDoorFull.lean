/- mac.Full. -/
import Derived.Test.YtkcnllbfinjaiaaDoorOf
import Derived.Test.YtkcnllbfinjaiaaDoorWith
import Derived.Test.YtkcnllbfinjaiaaDoorInsert
namespace Go.Proofs.YtkcnllbfinjaiaaDoor
open Go.RowKit

/-- The key as a block. -/
def keyOf (key : List UInt8) : List UInt8 := if 64 < key.length then sha key else key
def padK (key : List UInt8) : List UInt8 := keyOf key ++ List.replicate (64 - (keyOf key).length) 0
def hmac (key m : List UInt8) : List UInt8 := sha (withL (padK key) 92 ++ sha (withL (padK key) 54 ++ m))
theorem b4s_len (l : List UInt32) : (l.map b4).flatten.length = 4 * l.length := by
  induction l with
  | nil => rfl
  | cons x r ih => rw [List.map_cons, List.flatten_cons, List.length_append, ih, List.length_cons]; simp [b4]; omega
theorem sha_len (m : List UInt8) : (sha m).length = 32 := b4s_len _
theorem keyOf_len (key : List UInt8) : (keyOf key).length ≤ 64 := by
  unfold keyOf
  split
  · rw [sha_len]; omega
  · omega
theorem padK_len (key : List UInt8) : (padK key).length = 64 := by
  have := keyOf_len key
  unfold padK
  rw [List.length_append, List.length_replicate]; omega
theorem withL_len (k : List UInt8) (x : UInt8) : (withL k x).length = k.length := by simp [withL]

theorem BAt.low {w : World} {p : Nat → Prop} {v : Value} {l : List UInt8} (h : BAt w p v l) : BAt w (· < w.heap.size) v l := (SAt.lt h).mono fun _ h => h.2
theorem run_zeros_bytes {w : World} {base : Nat} {v : Value} {l : List UInt8} (k : Nat) (hown : BOwn w base v l) (hmax : l.length + k ≤ 1000000) (hbase : base ≤ w.heap.size) :
    ∃ v' w', (Builtin.append_ #[22, 3] 22 #[v, .int .i64 (k : Int)]).run Tryd.prog w = .ok v' w' ∧ BOwn w' base v' (l ++ List.replicate k 0) ∧ Keeps (fun b => v.ownBlock = some b) w w' := by
  obtain ⟨i, hi, hz, hs, hb⟩ := info_parts info_u8
  obtain ⟨v', w', hr, ha⟩ := run_append_zeros (P := Tryd.prog) (ty := 22) k Tryd.underlying22 Tryd.underlying3 hi hz hs hb (by rfl) (by rfl) hown (by omega) (by omega) hbase
  refine ⟨v', w', hr, ?_, ha.keeps⟩
  have := ha.own
  have e : bcells l ++ List.replicate k (Value.int .u8 0) = bcells (l ++ List.replicate k 0) := by rw [bcells_append]; simp [bcells, bcell]
  have e2 : l.length + k = (l ++ List.replicate k (0 : UInt8)).length := by simp
  rw [e, e2] at this
  exact this
theorem slice_one {w : World} {p : Nat → Prop} {v : Value} {l : List UInt8} (h : BAt w p v l) : v.oneCell' = true := by
  obtain ⟨a, c, rfl, -, -⟩ := h.slice
  rfl

theorem pad_step {w w5 : World} {K : Nat} {kv5 : Value} {k : List UInt8} (hK5 : RowAt w5 K #[kv5] 22) (ho5 : BOwn w5 w.heap.size kv5 k) (hk : k.length ≤ 64) (hkw5 : Keeps (fun _ => False) w w5) (hKw : w.heap.size ≤ K) :
    ∃ a6 c6 w6, (Builtin.append_ #[22, 3] 22 #[kv5, .int .i64 (64 - (k.length : Int))]).run Tryd.prog w5 = .ok (.slice a6 64 c6) w6 ∧ c6 ≤ 9223372036854775807 ∧ 64 ≤ c6 ∧ RowAt w6 K #[kv5] 22 ∧
      RowAt (w6.setCell ⟨K, 0, none⟩ (.slice a6 64 c6)) K #[.slice a6 64 c6] 22 ∧ BOwn (w6.setCell ⟨K, 0, none⟩ (.slice a6 64 c6)) w.heap.size (.slice a6 64 c6) (k ++ List.replicate (64 - k.length) 0) ∧
      Keeps (fun _ => False) w (w6.setCell ⟨K, 0, none⟩ (.slice a6 64 c6)) := by
  obtain ⟨kv6, w6, hrun6, ho6, hk6⟩ := run_zeros_bytes (64 - k.length) ho5 (by omega) hkw5.size
  obtain ⟨a6, c6, rfl, hc6, hm6⟩ := ho6.slice
  have hl : (k ++ List.replicate (64 - k.length) (0 : UInt8)).length = 64 := by rw [List.length_append, List.length_replicate]; omega
  rw [hl] at hrun6 ho6 hc6
  rw [show ((64 - k.length : Nat) : Int) = 64 - (k.length : Int) by omega] at hrun6
  have hK6 := hK5.keeps hk6 (ho5.apart hK5 (by decide))
  have hap := ho6.apart hK6 (by decide)
  refine ⟨a6, c6, w6, hrun6, by simpa [maxLen] using hm6, hc6, hK6, hK6.set 0 _, ?_, ?_⟩
  · exact ho6.keeps (Keeps.setCell (S := (· = K)) (Keeps.refl _ w6) ⟨K, 0, none⟩ _ (.inl rfl)) (fun b hb e => hap (by rw [← e]; exact hb))
  · exact (hkw5.from hk6 (fun b hb => (ho5.block b hb).1)).setCell _ _ (.inr hKw)

theorem BBAt.cons {w : World} {p q : Nat → Prop} {v x : Value} {vs : List Value} {l : List UInt8} {ls : List (List UInt8)} (hs : SAt w p 1 v (vs.length + 1) (x :: vs)) (hl : vs.length = ls.length) (hx : BAt w q x l)
    (hb : ∀ (i : Nat) (x : Value) (l : List UInt8), vs[i]? = some x → ls[i]? = some l → BAt w q x l) : BBAt w p q v (l :: ls) := by
  refine ⟨x :: vs, by simp [hl], by simpa using hs, fun i y m hy hm => ?_⟩
  cases i with
  | zero => simp at hy hm; subst hy hm; exact hx
  | succ i => exact hb i y m (by simpa using hy) (by simpa using hm)
theorem BBAt.pair {w : World} {q : Nat → Prop} {T : TypeId} {x y : Value} {l m : List UInt8} (hx : BAt w q x l) (hy : BAt w q y m) :
    BBAt (w.alloc (.cells #[x, y] T)) (fun b => b = w.heap.size) q (.slice (some ⟨w.heap.size, 0, none⟩) 2 2) [l, m] := by
  have hk := (Keeps.refl (fun _ => False) w).alloc (.cells #[x, y] T)
  refine BBAt.cons (vs := [y]) (x := x) (SAt.of_row (RowAt.new w _ _) 0 2 2 [x, y] rfl (Nat.le_refl _) (by simp [maxLen]) rfl (fun j hj => by rw [Nat.zero_add]; exact List.getElem?_toArray)) rfl (hx.keeps hk (fun _ _ h => h)) (fun i z n hz hn => ?_)
  cases i with
  | zero => simp at hz hn; subst hz hn; exact hy.keeps hk (fun _ _ h => h)
  | succ i => simp at hz
theorem BBAt.one {w : World} {q : Nat → Prop} {T : TypeId} {x : Value} {l : List UInt8} (hx : BAt w q x l) :
    BBAt (w.alloc (.cells #[x] T)) (fun b => b = w.heap.size) q (.slice (some ⟨w.heap.size, 0, none⟩) 1 1) [l] := by
  have hk := (Keeps.refl (fun _ => False) w).alloc (.cells #[x] T)
  exact BBAt.cons (vs := []) (x := x) (SAt.of_row (RowAt.new w _ _) 0 1 1 [x] rfl (Nat.le_refl _) (by simp [maxLen]) rfl (fun j hj => by rw [Nat.zero_add]; exact List.getElem?_toArray)) rfl (hx.keeps hk (fun _ _ h => h)) (fun i z n hz hn => by simp at hz)
theorem BBAt.low {w : World} {p q : Nat → Prop} {v : Value} {ls : List (List UInt8)} (h : BBAt w p q v ls) : BBAt w (· < w.heap.size) (· < w.heap.size) v ls := by
  obtain ⟨vs, h1, h2, h3⟩ := h
  exact ⟨vs, h1, (SAt.lt h2).mono fun _ h => h.2, fun i x l hx hl => (h3 i x l hx hl).low⟩

theorem slice_cells {w : World} {p : Nat → Prop} {v : Value} {l : List UInt8} (h : BAt w p v l) : v.cells = #[v] := by
  obtain ⟨a, c, rfl, -, -⟩ := h.slice
  rfl


set_option maxRecDepth 100000 in
set_option maxHeartbeats 2000000 in
theorem full_any (kv pv : Value) (key : List UInt8) (ls : List (List UInt8)) (w : World) (hk : BAt w (· < w.heap.size) kv key) (hp : BBAt w (· < w.heap.size) (· < w.heap.size) pv ls) (h0 : 0 < ls.length)
    (hkl : key.length ≤ 100000) (hll : ls.length ≤ 1000) (hfl : ls.flatten.length ≤ 10000000) (hT : Table w) :
    Calls Tryd.prog 10 #[kv, pv] w (Gives (hmac key ls.flatten) w) := by
  obtain ⟨ka, kc, rfl, hkc, hkm⟩ := hk.slice
  have hB0 : 0 < w.heap.size := World.block_lt_of_cell? w _ (hT 0 (by omega))
  have hko := keyOf_len key
  simp only [maxLen] at hkm
  go_enter Tryd.func10, Tryd.ntmps10
  by_cases hlong : 64 < key.length
  · have hlong' : (64 : Int) < (key.length : Int) := by omega
    have hke : padK key = sha key ++ List.replicate (64 - (sha key).length) 0 := by unfold padK keyOf; rw [if_pos hlong]
    have hsl := sha_len key
    go_wp2_with (go_at_call 15; refine (clone_any _ key _ _ hk (by omega)).mono ?_; rintro e w1 ⟨v1, rfl, ho1, hk1⟩; obtain ⟨a1, c1, rfl, hc1, hm1⟩ := ho1.slice; have hT1 := hT.keeps hk1)
    have hK1 := RowAt.new w1 #[.slice a1 key.length c1] 22
    have hk2 := hk1.alloc (.cells #[.slice a1 key.length c1] 22)
    have hs2 : (w1.alloc (.cells #[.slice a1 key.length c1] 22)).heap.size = w1.heap.size + 1 := size_alloc _ _
    have hbb := BBAt.one (T := 22) (hk.keeps hk2 (fun _ _ h => h))
    rw [hs2] at hbb
    refine (of_any _ [key] _ hbb.low (by simp; omega) (hT.keeps (hk2.alloc _))).mono ?_
    rintro e w3 ⟨v3, rfl, ho3, hk3⟩
    rw [show [key].flatten = key by simp] at ho3
    obtain ⟨a3, c3, rfl, hc3, hm3⟩ := ho3.slice
    have hK3 := (hK1.alloc (.cells #[.slice ka key.length kc] 22)).keeps hk3 (fun h => h)
    have hkw3 : Keeps (fun _ => False) w w3 := (hk2.alloc _).trans hk3 (fun _ _ h => h)
    have hap := ho3.apart hK3 (by decide)
    have hK5 := hK3.set 0 (.slice a3 (sha key).length c3)
    have ho5 : BOwn (w3.setCell ⟨w1.heap.size, 0, none⟩ (.slice a3 (sha key).length c3)) w.heap.size (.slice a3 (sha key).length c3) (sha key) :=
      (ho3.keeps (Keeps.setCell (S := (· = w1.heap.size)) (Keeps.refl _ w3) ⟨w1.heap.size, 0, none⟩ _ (.inl rfl)) (fun b hb e => hap (by rw [← e]; exact hb))).mono (hk2.alloc _).size
    have hkw5 : Keeps (fun _ => False) w (w3.setCell ⟨w1.heap.size, 0, none⟩ (.slice a3 (sha key).length c3)) := hkw3.setCell _ _ (.inr hk1.size)
    have hK5' : RowAt (w3.setCell ⟨w1.heap.size, 0, none⟩ (.slice a3 (sha key).length c3)) w1.heap.size #[.slice a3 (sha key).length c3] 22 := hK5
    obtain ⟨a6, c6, w6, hrun6, hc6, h64, hK6, hK7, ho7, hkw7⟩ := pad_step hK5' ho5 (by omega) hkw5 hk1.size
    have ck3 := hK3.one
    have fk3 := hK3.frozen 0
    have ck6 := hK6.one
    have fk6 := hK6.frozen 0
    rw [← hke] at ho7
    rw [hsl, show (64 : Int) - ((32 : Nat) : Int) = 32 from rfl] at hrun6
    have HR6 := Lib.hid hrun6
    have hc3' := hc3
    rw [hsl] at hc3 ck6 ⊢
    simp only [maxLen] at hm3
    clear hrun6 hke hbb hlong' hK5' hK6 ho5 hK5 hkw5 hc3'
    have hsl' := Lib.hid hsl
    clear hsl
    go_wp2_with (at_builtin; refine Lib.wpList_append_run _ rfl _ _ _ _ rfl _ _ rfl rfl _ _ HR6.out ?_)
    have hK7w : w1.heap.size < (w6.setCell ⟨w1.heap.size, 0, none⟩ (.slice a6 64 c6)).heap.size := hK7.lt
    generalize w6.setCell ⟨w1.heap.size, 0, none⟩ (.slice a6 64 c6) = w7 at hK7 ho7 hkw7 hK7w ⊢
    obtain ⟨vs, hvl, hvs, hvb⟩ := hp
    have hone : ∀ u ∈ vs, u.oneCell' = true := by
      intro u hu
      obtain ⟨i, hi, rfl⟩ := List.getElem_of_mem hu
      exact slice_one (hvb i _ (ls[i]'(by omega)) (by simp) (by simp))
    refine (cloneB_any pv vs.length vs _ _ (hvs.keeps hkw7 (fun _ _ h => h)) hone (by omega) (by omega)).mono ?_
    rintro e w8 ⟨v8, rfl, ho8, hk8⟩
    have hlow8 : ∀ b, v8.ownBlock = some b → w7.heap.size ≤ b ∧ b < w8.heap.size := fun b hb => ho8.block b hb
    have hK8 := hK7.keeps hk8 (fun h => h)
    have ho78 := ho7.keeps hk8 (fun _ _ h => h)
    go_wp2_with fail
    refine (with_any 54 w1.heap.size _ (padK key) _ _ hK8 ho78.bat (by rw [padK_len]; omega)).mono ?_
    rintro e w9 ⟨v9, rfl, ho9, hk9⟩
    obtain ⟨a9, c9, rfl, -, -⟩ := ho9.slice
    have hs9 := hk9.size
    have hs8 := hk8.size
    have hsw := hkw7.size
    go_wp2_with fail
    refine (insert_any v8 _ vs.length w9.heap.size w7.heap.size vs _ ((ho8.keeps hk9 (fun _ _ h => h)).keeps ((Keeps.refl (fun _ => False) w9).alloc _) (fun _ _ h => h)) (RowAt.new w9 _ _) (fun e => by have := (hlow8 _ e).2; omega) (by omega) (by omega) (by rw [size_alloc]; omega) (slice_one ho9.bat)).mono ?_
    rintro e w10 ⟨v10, rfl, hs10, hk10⟩
    have hk1 : Keeps (fun _ => False) w w10 := (((hkw7.trans hk8 (fun _ _ h => h)).trans hk9 (fun _ _ h => h)).alloc _).from hk10 (fun b hb => by have := (hlow8 b hb).1; omega)
    have ho910 := (ho9.keeps ((Keeps.refl (fun _ => False) w9).alloc (.cells #[.slice a9 (withL (padK key) 54).length c9] 22)) (fun _ _ h => h)).keeps hk10 (fun b hb e => by have := (hlow8 b e).2; have := (ho9.block b hb).1; omega)
    go_wp2_with fail
    have hbb : BBAt w10 (· < w10.heap.size) (· < w10.heap.size) v10 (withL (padK key) 54 :: ls) :=
      (BBAt.cons (q := fun _ => True) hs10 hvl (ho910.bat.mono fun _ _ => trivial) (fun i x l hx hl => ((hvb i x l hx hl).keeps hk1 (fun _ _ h => h)).mono fun _ _ => trivial)).low
    refine (of_any v10 _ w10 hbb (by rw [List.flatten_cons, List.length_append, withL_len, padK_len]; omega) (hT.keeps hk1)).mono ?_
    rintro e w11 ⟨v11, rfl, ho11, hk11⟩
    obtain ⟨a11, c11, rfl, -, -⟩ := ho11.slice
    have hK11 := (((hK8.keeps hk9 (fun h => h)).alloc (.cells #[.slice a9 (withL (padK key) 54).length c9] 22)).keeps hk10 (fun e => by have := (hlow8 _ e).1; omega)).keeps hk11 (fun h => h)
    have ho711 := (((ho78.keeps hk9 (fun _ _ h => h)).keeps ((Keeps.refl (fun _ => False) w9).alloc (.cells #[.slice a9 (withL (padK key) 54).length c9] 22)) (fun _ _ h => h)).keeps hk10 (fun b hb e => by have := (hlow8 b e).1; have := (ho7.block b hb).2; omega)).keeps hk11 (fun _ _ h => h)
    go_wp2_with fail
    refine (with_any 92 w1.heap.size _ (padK key) _ _ hK11 ho711.bat (by rw [padK_len]; omega)).mono ?_
    rintro e w12 ⟨v12, rfl, ho12, hk12⟩
    obtain ⟨a12, c12, rfl, -, -⟩ := ho12.slice
    go_wp2_with fail
    have hk2 : Keeps (fun _ => False) w (w12.alloc (.cells #[.slice a12 (withL (padK key) 92).length c12, .slice a11 (sha (withL (padK key) 54 ++ ls.flatten)).length c11] 22)) := ((hk1.trans hk11 (fun _ _ h => h)).trans hk12 (fun _ _ h => h)).alloc _
    refine (of_any _ [withL (padK key) 92, sha (withL (padK key) 54 ++ ls.flatten)] _ (BBAt.low (BBAt.pair (q := fun _ => True) (ho12.bat.mono fun _ _ => trivial) ((ho11.keeps hk12 (fun _ _ h => h)).bat.mono fun _ _ => trivial))) (by rw [List.flatten_cons, List.length_append, withL_len, padK_len]; simp [sha_len]) (hT.keeps hk2)).mono ?_
    rintro e w13 ⟨v13, rfl, ho13, hk13⟩
    go_wp2_with fail
    go_ret
    refine ⟨_, rfl, ?_, hk2.trans hk13 (fun _ _ h => h)⟩
    have hfl2 : [withL (padK key) 92, sha (withL (padK key) 54 ++ ls.flatten)].flatten = withL (padK key) 92 ++ sha (withL (padK key) 54 ++ ls.flatten) := by simp
    rw [hfl2] at ho13
    exact ho13.mono hk2.size
  · have hlong' : (key.length : Int) ≤ 64 := by omega
    have hke : padK key = key ++ List.replicate (64 - key.length) 0 := by unfold padK keyOf; rw [if_neg hlong]
    go_wp2_with (first | (go_at_call 15; refine (clone_any _ key _ _ hk (by omega)).mono ?_; rintro e w1 ⟨v1, rfl, ho1, hk1⟩; obtain ⟨a1, c1, rfl, hc1, hm1⟩ := ho1.slice; have hT1 := hT.keeps hk1; have hK5 := RowAt.new w1 #[.slice a1 key.length c1] 22; have ho5 := ho1.keeps ((Keeps.refl (fun _ => False) w1).alloc (.cells #[.slice a1 key.length c1] 22)) (fun _ _ h => h); have hkw5 := hk1.alloc (.cells #[.slice a1 key.length c1] 22); obtain ⟨a6, c6, w6, hrun6, hc6, h64, hK6, hK7, ho7, hkw7⟩ := pad_step hK5 ho5 (by omega) hkw5 hk1.size; have ck6 := hK6.one; have fk6 := hK6.frozen 0; have HR6 := Lib.hid hrun6; clear hrun6) | (at_builtin; refine Lib.wpList_append_run _ rfl _ _ _ _ rfl _ _ rfl rfl _ _ HR6.out ?_))
    rw [← hke] at ho7
    clear hke
    have hK7w : w1.heap.size < (w6.setCell ⟨w1.heap.size, 0, none⟩ (.slice a6 64 c6)).heap.size := hK7.lt
    generalize w6.setCell ⟨w1.heap.size, 0, none⟩ (.slice a6 64 c6) = w7 at hK7 ho7 hkw7 hK7w ⊢
    obtain ⟨vs, hvl, hvs, hvb⟩ := hp
    have hone : ∀ u ∈ vs, u.oneCell' = true := by
      intro u hu
      obtain ⟨i, hi, rfl⟩ := List.getElem_of_mem hu
      exact slice_one (hvb i _ (ls[i]'(by omega)) (by simp) (by simp))
    refine (cloneB_any pv vs.length vs _ _ (hvs.keeps hkw7 (fun _ _ h => h)) hone (by omega) (by omega)).mono ?_
    rintro e w8 ⟨v8, rfl, ho8, hk8⟩
    have hlow8 : ∀ b, v8.ownBlock = some b → w7.heap.size ≤ b ∧ b < w8.heap.size := fun b hb => ho8.block b hb
    have hK8 := hK7.keeps hk8 (fun h => h)
    have ho78 := ho7.keeps hk8 (fun _ _ h => h)
    go_wp2_with fail
    refine (with_any 54 w1.heap.size _ (padK key) _ _ hK8 ho78.bat (by rw [padK_len]; omega)).mono ?_
    rintro e w9 ⟨v9, rfl, ho9, hk9⟩
    obtain ⟨a9, c9, rfl, -, -⟩ := ho9.slice
    have hs9 := hk9.size
    have hs8 := hk8.size
    have hsw := hkw7.size
    go_wp2_with fail
    refine (insert_any v8 _ vs.length w9.heap.size w7.heap.size vs _ ((ho8.keeps hk9 (fun _ _ h => h)).keeps ((Keeps.refl (fun _ => False) w9).alloc _) (fun _ _ h => h)) (RowAt.new w9 _ _) (fun e => by have := (hlow8 _ e).2; omega) (by omega) (by omega) (by rw [size_alloc]; omega) (slice_one ho9.bat)).mono ?_
    rintro e w10 ⟨v10, rfl, hs10, hk10⟩
    have hk1 : Keeps (fun _ => False) w w10 := (((hkw7.trans hk8 (fun _ _ h => h)).trans hk9 (fun _ _ h => h)).alloc _).from hk10 (fun b hb => by have := (hlow8 b hb).1; omega)
    have ho910 := (ho9.keeps ((Keeps.refl (fun _ => False) w9).alloc (.cells #[.slice a9 (withL (padK key) 54).length c9] 22)) (fun _ _ h => h)).keeps hk10 (fun b hb e => by have := (hlow8 b e).2; have := (ho9.block b hb).1; omega)
    go_wp2_with fail
    have hbb : BBAt w10 (· < w10.heap.size) (· < w10.heap.size) v10 (withL (padK key) 54 :: ls) :=
      (BBAt.cons (q := fun _ => True) hs10 hvl (ho910.bat.mono fun _ _ => trivial) (fun i x l hx hl => ((hvb i x l hx hl).keeps hk1 (fun _ _ h => h)).mono fun _ _ => trivial)).low
    refine (of_any v10 _ w10 hbb (by rw [List.flatten_cons, List.length_append, withL_len, padK_len]; omega) (hT.keeps hk1)).mono ?_
    rintro e w11 ⟨v11, rfl, ho11, hk11⟩
    obtain ⟨a11, c11, rfl, -, -⟩ := ho11.slice
    have hK11 := (((hK8.keeps hk9 (fun h => h)).alloc (.cells #[.slice a9 (withL (padK key) 54).length c9] 22)).keeps hk10 (fun e => by have := (hlow8 _ e).1; omega)).keeps hk11 (fun h => h)
    have ho711 := (((ho78.keeps hk9 (fun _ _ h => h)).keeps ((Keeps.refl (fun _ => False) w9).alloc (.cells #[.slice a9 (withL (padK key) 54).length c9] 22)) (fun _ _ h => h)).keeps hk10 (fun b hb e => by have := (hlow8 b e).1; have := (ho7.block b hb).2; omega)).keeps hk11 (fun _ _ h => h)
    go_wp2_with fail
    refine (with_any 92 w1.heap.size _ (padK key) _ _ hK11 ho711.bat (by rw [padK_len]; omega)).mono ?_
    rintro e w12 ⟨v12, rfl, ho12, hk12⟩
    obtain ⟨a12, c12, rfl, -, -⟩ := ho12.slice
    go_wp2_with fail
    have hk2 : Keeps (fun _ => False) w (w12.alloc (.cells #[.slice a12 (withL (padK key) 92).length c12, .slice a11 (sha (withL (padK key) 54 ++ ls.flatten)).length c11] 22)) := ((hk1.trans hk11 (fun _ _ h => h)).trans hk12 (fun _ _ h => h)).alloc _
    refine (of_any _ [withL (padK key) 92, sha (withL (padK key) 54 ++ ls.flatten)] _ (BBAt.low (BBAt.pair (q := fun _ => True) (ho12.bat.mono fun _ _ => trivial) ((ho11.keeps hk12 (fun _ _ h => h)).bat.mono fun _ _ => trivial))) (by rw [List.flatten_cons, List.length_append, withL_len, padK_len]; simp [sha_len]) (hT.keeps hk2)).mono ?_
    rintro e w13 ⟨v13, rfl, ho13, hk13⟩
    go_wp2_with fail
    go_ret
    refine ⟨_, rfl, ?_, hk2.trans hk13 (fun _ _ h => h)⟩
    have hfl2 : [withL (padK key) 92, sha (withL (padK key) 54 ++ ls.flatten)].flatten = withL (padK key) 92 ++ sha (withL (padK key) 54 ++ ls.flatten) := by simp
    rw [hfl2] at ho13
    exact ho13.mono hk2.size

end Go.Proofs.YtkcnllbfinjaiaaDoor
