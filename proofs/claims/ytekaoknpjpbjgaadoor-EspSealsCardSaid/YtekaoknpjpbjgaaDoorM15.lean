/- Words, walks and plain laws that the claim leans on, part 15. -/
import Derived.Test.YtekaoknpjpbjgaaDoorM6
import Derived.Test.YtekaoknpjpbjgaaDoorM13
import Derived.Test.YtekaoknpjpbjgaaDoorM14
import Derived.Lib.Overlaps

/-! slices.Insert of one row of bytes at the head. -/
namespace Go.Proofs.YtekaoknpjpbjgaaDoor
set_option linter.unusedVariables false
set_option linter.unusedSimpArgs false
open Go.RowKit

theorem RowAt.shape {w : World} {b T : Nat} {cs : Array Value} (h : RowAt w b cs T) : w.shape? b = some (T, cs.size) := by
  unfold World.shape?
  rw [show w.heap[b]? = _ from h]

theorem laid_in (l xs : List Value) (o j : Nat) (h : o + xs.length ≤ l.length) (hj : j < xs.length) : (l.take o ++ (xs ++ l.drop (o + xs.length))).toArray[o + j]? = xs[j]? := by
  rw [List.getElem?_toArray, List.getElem?_append_right (by simp; omega), List.getElem?_append_left (by simp; omega)]
  congr 1
  simp; omega
theorem laid_out (l xs : List Value) (o k : Nat) (h : o + xs.length ≤ l.length) (hk : k < o ∨ o + xs.length ≤ k) : (l.take o ++ (xs ++ l.drop (o + xs.length))).toArray[k]? = l[k]? := by
  rw [List.getElem?_toArray]
  rcases hk with hk | hk
  · rw [List.getElem?_append_left (by simp; omega), List.getElem?_take, if_pos hk]
  · rw [List.getElem?_append_right (by simp; omega), List.getElem?_append_right (by simp; omega), List.getElem?_drop]
    congr 1
    simp; omega
theorem laid_size (l xs : List Value) (o : Nat) (h : o + xs.length ≤ l.length) : (l.take o ++ (xs ++ l.drop (o + xs.length))).toArray.size = l.length := by
  simp; omega
theorem SAt.of_row {w : World} {b T : Nat} {cs : Array Value} {p : Nat → Prop} (h : RowAt w b cs T) (off n N : Nat) (xs : List Value) (hl : xs.length = n) (hN : n ≤ N) (hm : N ≤ maxLen) (hp : p b) (hc : ∀ j, j < n → cs[off + j]? = xs[j]?) :
    SAt w p 1 (.slice (some ⟨b, off, none⟩) n N) n xs :=
  ⟨by omega, _, N, rfl, hN, hm, .inr ⟨b, off, hp, rfl, fun j u hu => by
    have hj : j < xs.length := (List.getElem?_eq_some_iff.1 hu).1
    rw [h.cell, hc j (by omega), hu]⟩⟩
theorem min_self' (n : Nat) : n = Nat.min n n := by simp
theorem RowAt.from {w : World} {g T : Nat} {cs : Array Value} (h : RowAt w g cs T) (o : Nat) (l : List Value) (hl : ∀ j, j < l.length → cs[o + j]? = l[j]?) :
    ∀ j v, l[j]? = some v → w.cell? ((⟨g, o, none⟩ : Addr).add j) = some v := fun j v hv => by
  rw [addr_add, h.cell, hl j (List.getElem?_eq_some_iff.1 hv).1]; exact hv

set_option maxRecDepth 100000 in
set_option maxHeartbeats 1000000 in
theorem insert_any (v x : Value) (n vb base : Nat) (vs : List Value) (w : World) (h : Own w base 25 1 v n vs) (hx : RowAt w vb #[x] 25) (hne : v.ownBlock ≠ some vb) (h0 : 0 < n) (hl : n ≤ 1000000) (hb : base ≤ w.heap.size) (h1 : x.oneCell' = true) :
    Calls Tryd.prog 61 #[v, .int .i64 0, .slice (some ⟨vb, 0, none⟩) 1 1] w fun e w' => ∃ v', e = .returned v' ∧ SAt w' (base ≤ ·) 1 v' (n + 1) (x :: vs) ∧ Keeps (fun b => v.ownBlock = some b) w w' := by
  obtain ⟨hlen, hone, h2⟩ := h
  rcases h2 with ⟨rfl, e, -⟩ | ⟨g, off, c, cs, hbg, rfl, hc, hm, hr, hcs, hcell⟩
  · omega
  have hvb : vb ≠ g := fun e => hne (by rw [e]; rfl)
  obtain ⟨i, hi, hz, hs, hby⟩ := info_parts info_sl
  have hm' := hm
  simp only [maxLen] at hm
  have hlen1 : vs.length = n := by omega
  by_cases hroom : n + 1 ≤ c
  · have hov : ∀ lb cb, (callFunc 76 #[.slice (some ⟨vb, 0, none⟩) 1 1, .slice (some ⟨g, off + 1, none⟩) lb cb]).run Tryd.prog w = .ok (.value (.bool false)) w := fun lb cb => by
      rw [run_callFunc_extern Tryd.func76 (by kernel_rfl) (by kernel_rfl) (by kernel_rfl) (e := Extern.SlicesOverlaps.overlaps #[45, 45] #[4]) (by kernel_rfl),
        Lib.run_overlaps_apart w 45 4 25 Tryd.underlying45 1 (fun w => by simp [sizeOf, typeInfo, hi, hs]) ⟨vb, 0, none⟩ ⟨g, off + 1, none⟩ 1 1 lb cb hvb _ _ 1 cs.size hx.shape hr.shape (by omega) (hx.frozen 0) (hx.frozen 1)]
      rfl
    go_enter Tryd.func61, Tryd.ntmps61
    have hc1 : ¬ c = 1 := by omega
    go_wp2_with (simp only [hov])
    have hone1 : ∀ v ∈ [x], v.oneCell' = true := by simpa using h1
    have hcsl : off + c ≤ cs.toList.length := by simpa using hcs
    refine region_draws_tail 8 (by kernel_rfl) (by kernel_rfl) ?_
    simp only [List.take_succ_cons, List.take_zero, List.drop_succ_cons, List.drop_zero]
    repeat (go_big_quiet_step (fail))
    refine wpQuiet_nil ?_
    rintro _ ⟨nq, rfl⟩
    refine wpList_copy_whole rfl (.tmp 73) (.tmp 76) 45 45 rfl 25 (by kernel_rfl) (by kernel_rfl) g (off + 1) n (c - 1) ⟨g, off, none⟩ (n + 1) c rfl rfl cs _ hr vs (by rw [hlen1]; simp) (hr.from off vs (fun j hj => hcell j (by omega))) (by omega) hone (fun w2 hr2 hk2 => ?_)
    have hsz := laid_size cs.toList vs (off + 1) (by rw [hlen1]; omega)
    have hk2' : Keeps (· = g) w w2 := Keeps.trans (S := (· = g)) (by repeat (first | with_reducible exact Keeps.refl _ _ | with_reducible refine Keeps.drewN ?_ _)) hk2 (fun _ _ h => h)
    have hin := laid_in cs.toList vs (off + 1)
    have hx2 := (hx.keeps hk2' hvb).from 0 [x] (fun j hj => by rw [Nat.zero_add]; exact List.getElem?_toArray)
    obtain ⟨cs2, hcs2⟩ : ∃ cs2, (cs.toList.take (off + 1) ++ (vs ++ cs.toList.drop (off + 1 + vs.length))).toArray = cs2 := ⟨_, rfl⟩
    rw [hcs2] at hr2 hsz hin
    clear hcs2
    go_wp2_with (refine wpList_copy_whole rfl (.tmp 80) (.tmp 81) 45 45 rfl 25 (by kernel_rfl) (by kernel_rfl) g off (n + 1) c ⟨vb, 0, none⟩ 1 1 rfl rfl cs2 _ hr2 [x] (by simp) hx2 (by rw [hsz, List.length_singleton]; omega) hone1 (fun w3 hr3 hk3 => ?_))
    go_ret
    refine ⟨_, rfl, SAt.of_row hr3 off (n + 1) c (x :: vs) (by simp; omega) hroom hm' hbg (fun j hj => ?_), (Keeps.trans (S := (· = g)) hk2' hk3 (fun _ _ h => h)).mono (fun i _ e => by rw [e]; rfl)⟩
    have hsz' : off + [x].length ≤ cs2.toList.length := by rw [List.length_singleton, Array.length_toList, hsz]; omega
    cases j with
    | zero => exact laid_in cs2.toList [x] off 0 hsz' (by simp)
    | succ j =>
      rw [laid_out cs2.toList [x] off (off + (j + 1)) hsz' (.inr (by simp)), Array.getElem?_toList, show off + (j + 1) = off + 1 + j by omega, hin j (by rw [hlen1]; omega) (by omega)]
      rfl
  · have hg : c < n + 1 := by omega
    obtain ⟨N, w1, hrun, hN, hNm, hr1, hk1⟩ := run_append_zeros_new (P := Tryd.prog) (t := 45) (tn := 3) (ty := 45) w ⟨g, off, none⟩ c (n + 1) Tryd.underlying45 Tryd.underlying3 hi hz hs (by omega) (by rfl) hg (by omega)
    have HR := Lib.hid hrun
    have hN1 : ¬ N = 1 := by omega
    have hNm' := hNm
    simp only [maxLen] at hNm
    have hone1 : ∀ v ∈ [x], v.oneCell' = true := by simpa using h1
    clear hrun
    go_enter Tryd.func61, Tryd.ntmps61
    go_wp2_with (first | (at_builtin; refine Lib.wpList_append_run _ rfl _ _ _ _ rfl _ _ rfl rfl _ _ HR.out ?_) | (refine wpList_copy_whole rfl (.tmp 43) (.tmp 44) 45 45 rfl 25 (by kernel_rfl) (by kernel_rfl) w.heap.size 0 (n + 1) N ⟨vb, 0, none⟩ 1 1 rfl rfl _ _ hr1 [x] (by simp [Nat.min_def]) ((hx.keeps hk1 (fun h => h)).from 0 [x] (fun j hj => by rw [Nat.zero_add]; exact List.getElem?_toArray)) (by simp; omega) hone1 (fun w2 hr2 hk2 => ?_)))
    have hwg : g < w.heap.size := hr.lt
    refine region_draws_tail 8 (by kernel_rfl) (by kernel_rfl) ?_
    simp only [List.take_succ_cons, List.take_zero, List.drop_succ_cons, List.drop_zero]
    repeat (go_big_quiet_step (fail))
    refine wpQuiet_nil ?_
    rintro _ ⟨nq, rfl⟩
    refine wpList_copy_whole rfl (.tmp 50) (.tmp 53) 45 45 rfl 25 (by kernel_rfl) (by kernel_rfl) w.heap.size 1 n (N - 1) ⟨g, off, none⟩ n c rfl rfl _ _ hr2 vs (by rw [hlen1]; simp) (((hr.keeps hk1 (fun h => h)).keeps hk2 (by omega)).from off vs (fun j hj => hcell j (by omega))) (by simp; omega) hone (fun w3 hr3 hk3 => ?_)
    have hNs : 1 + vs.length ≤ (([] : List Value) ++ ([x] ++ List.drop 1 (List.replicate N (Value.slice none 0 0)))).length := by simp; omega
    have hsub : ∀ j, j < n + 1 → (List.take 1 ([] ++ ([x] ++ List.drop 1 (List.replicate N (Value.slice none 0 0)))) ++ (vs ++ List.drop (1 + vs.length) ([] ++ ([x] ++ List.drop 1 (List.replicate N (Value.slice none 0 0)))))).toArray[0 + j]? = (x :: vs)[j]? := fun j hj => by
      rw [Nat.zero_add]
      cases j with
      | zero => rfl
      | succ j =>
        rw [show j + 1 = 1 + j by omega, laid_in _ vs 1 j hNs (by omega), Nat.add_comm]
        rfl
    have hk23 : Keeps (· = w.heap.size) w1 w3 := by
      refine Keeps.trans (S := (· = w.heap.size)) ?_ hk3 (fun _ _ h => h)
      repeat (first | exact hk2 | with_reducible refine Keeps.drewN ?_ _)
    go_wp2
    go_ret
    exact ⟨_, rfl, SAt.of_row hr3 0 (n + 1) N (x :: vs) (by simp; omega) hN hNm' hb hsub, (hk1.own hk23 (Nat.le_refl _)).mono (fun _ _ h => h.elim)⟩

end Go.Proofs.YtekaoknpjpbjgaaDoor
