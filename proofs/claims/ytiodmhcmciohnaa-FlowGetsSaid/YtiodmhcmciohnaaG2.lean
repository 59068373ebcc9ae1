/- Words, walks and plain laws that the claim leans on, part 2. -/
import Derived.Test.YtiodmhcmciohnaaG1
import Derived.Shelf.SlSortCmp.WholeK
import Derived.Shelf.Lay

/-! The kit's structure for slices.SortFunc, laid at this seat's functions, as plain text (printed by shelfplain.py: hard numbers of seat r25). -/
namespace Go.Proofs.Ytiodmhcmciohnaa
set_option linter.unusedVariables false
set_option linter.unusedSimpArgs false
open Go.Shelf Go.RowKit Go.Lib Go.Sort
def sortPt_ren : Go.Shelf.Ren := ⟨fun | 6 => 37 | 15 => 43 | 14 => 42 | 28 => 55 | 29 => 56 | 20 => 47 | 21 => 48 | 22 => 49 | 23 => 50 | 24 => 51 | 25 => 52 | 26 => 53 | 27 => 54 | 46 => 57 | 47 => 58 | 48 => 59 | 49 => 60 | 50 => 61 | 57 => 62 | n => n, fun | 22 => 43 | 24 => 68 | 25 => 78 | 3 => 3 | 39 => 84 | 0 => 0 | 53 => 96 | 55 => 98 | 4 => 4 | 46 => 89 | 45 => 88 | 50 => 93 | 5 => 5 | 9 => 9 | 66 => 99 | 70 => 103 | 76 => 105 | 77 => 59 | n => n, fun | n => n⟩
set_option maxRecDepth 100000 in
theorem sortPt : SlLaysF0.n6 Try.prog sortPt_ren where
  mixed := by kernel_rfl
  f6 := by first | exact Try.func37.trans (congrArg some (by kernel_rfl)) | exact ⟨Try.f37.name, by kernel_rfl, Try.func37.trans (congrArg some (by kernel_rfl))⟩
  f14 := by first | exact Try.func42.trans (congrArg some (by kernel_rfl)) | exact ⟨Try.f42.name, by kernel_rfl, Try.func42.trans (congrArg some (by kernel_rfl))⟩
  f15 := by first | exact Try.func43.trans (congrArg some (by kernel_rfl)) | exact ⟨Try.f43.name, by kernel_rfl, Try.func43.trans (congrArg some (by kernel_rfl))⟩
  f20 := by first | exact Try.func47.trans (congrArg some (by kernel_rfl)) | exact ⟨Try.f47.name, by kernel_rfl, Try.func47.trans (congrArg some (by kernel_rfl))⟩
  f21 := by first | exact Try.func48.trans (congrArg some (by kernel_rfl)) | exact ⟨Try.f48.name, by kernel_rfl, Try.func48.trans (congrArg some (by kernel_rfl))⟩
  f22 := by first | exact Try.func49.trans (congrArg some (by kernel_rfl)) | exact ⟨Try.f49.name, by kernel_rfl, Try.func49.trans (congrArg some (by kernel_rfl))⟩
  f23 := by first | exact Try.func50.trans (congrArg some (by kernel_rfl)) | exact ⟨Try.f50.name, by kernel_rfl, Try.func50.trans (congrArg some (by kernel_rfl))⟩
  f24 := by first | exact Try.func51.trans (congrArg some (by kernel_rfl)) | exact ⟨Try.f51.name, by kernel_rfl, Try.func51.trans (congrArg some (by kernel_rfl))⟩
  f25 := by first | exact Try.func52.trans (congrArg some (by kernel_rfl)) | exact ⟨Try.f52.name, by kernel_rfl, Try.func52.trans (congrArg some (by kernel_rfl))⟩
  f26 := by first | exact Try.func53.trans (congrArg some (by kernel_rfl)) | exact ⟨Try.f53.name, by kernel_rfl, Try.func53.trans (congrArg some (by kernel_rfl))⟩
  f27 := by first | exact Try.func54.trans (congrArg some (by kernel_rfl)) | exact ⟨Try.f54.name, by kernel_rfl, Try.func54.trans (congrArg some (by kernel_rfl))⟩
  f28 := by first | exact Try.func55.trans (congrArg some (by kernel_rfl)) | exact ⟨Try.f55.name, by kernel_rfl, Try.func55.trans (congrArg some (by kernel_rfl))⟩
  f29 := by first | exact Try.func56.trans (congrArg some (by kernel_rfl)) | exact ⟨Try.f56.name, by kernel_rfl, Try.func56.trans (congrArg some (by kernel_rfl))⟩
  f46 := by first | exact Try.func57.trans (congrArg some (by kernel_rfl)) | exact ⟨Try.f57.name, by kernel_rfl, Try.func57.trans (congrArg some (by kernel_rfl))⟩
  f47 := by first | exact Try.func58.trans (congrArg some (by kernel_rfl)) | exact ⟨Try.f58.name, by kernel_rfl, Try.func58.trans (congrArg some (by kernel_rfl))⟩
  f48 := by first | exact Try.func59.trans (congrArg some (by kernel_rfl)) | exact ⟨Try.f59.name, by kernel_rfl, Try.func59.trans (congrArg some (by kernel_rfl))⟩
  f49 := by first | exact Try.func60.trans (congrArg some (by kernel_rfl)) | exact ⟨Try.f60.name, by kernel_rfl, Try.func60.trans (congrArg some (by kernel_rfl))⟩
  f50 := by first | exact Try.func61.trans (congrArg some (by kernel_rfl)) | exact ⟨Try.f61.name, by kernel_rfl, Try.func61.trans (congrArg some (by kernel_rfl))⟩
  f57 := by first | exact Try.func62.trans (congrArg some (by kernel_rfl)) | exact ⟨Try.f62.name, by kernel_rfl, Try.func62.trans (congrArg some (by kernel_rfl))⟩
  t0 := Try.underlying0
  a0 := Try.isAgg0
  z0 := Try.sizeOf0
  v0 := Try.zeroValue0
  t3 := Try.underlying3
  a3 := Try.isAgg3
  z3 := Try.sizeOf3
  v3 := Try.zeroValue3
  t4 := Try.underlying4
  a4 := Try.isAgg4
  z4 := Try.sizeOf4
  v4 := Try.zeroValue4
  t5 := Try.underlying5
  a5 := Try.isAgg5
  z5 := Try.sizeOf5
  v5 := Try.zeroValue5
  t9 := Try.underlying9
  a9 := Try.isAgg9
  z9 := Try.sizeOf9
  v9 := Try.zeroValue9
  t22 := Try.underlying43
  a22 := Try.isAgg43
  z22 := Try.sizeOf43
  v22 := Try.zeroValue43
  t25 := Try.underlying78
  a25 := Try.isAgg78
  z25 := Try.sizeOf78
  v25 := Try.zeroValue78
  t39 := Try.underlying84
  a39 := Try.isAgg84
  z39 := Try.sizeOf84
  v39 := Try.zeroValue84
  t45 := Try.underlying88
  a45 := Try.isAgg88
  z45 := Try.sizeOf88
  v45 := Try.zeroValue88
  t46 := Try.underlying89
  a46 := Try.isAgg89
  z46 := Try.sizeOf89
  v46 := Try.zeroValue89
  t50 := Try.underlying93
  a50 := Try.isAgg93
  z50 := Try.sizeOf93
  v50 := Try.zeroValue93
  t53 := Try.underlying96
  a53 := Try.isAgg96
  z53 := Try.sizeOf96
  v53 := Try.zeroValue96
  t55 := Try.underlying98
  a55 := Try.isAgg98
  z55 := Try.sizeOf98
  v55 := Try.zeroValue98
  t66 := Try.underlying99
  a66 := Try.isAgg99
  z66 := Try.sizeOf99
  v66 := Try.zeroValue99
  t70 := Try.underlying103
  a70 := Try.isAgg103
  z70 := Try.sizeOf103
  v70 := Try.zeroValue103
  t76 := Try.underlying105
  a76 := Try.isAgg105
  z76 := Try.sizeOf105
  v76 := Try.zeroValue105
  t77 := Try.underlying59
  a77 := Try.isAgg59
  z77 := Try.sizeOf59
  v77 := Try.zeroValue59

/-- A part's cells, its bytes as a slice's three numbers. -/
abbrev PtS := Int × (Option Addr × Nat × Nat)
def encPt (x : PtS) : List Value := [.int .i64 x.1, .slice x.2.1 x.2.2.1 x.2.2.2]
theorem ltPt (x y : PtS) : ltOf (fun x y : PtS => Lib.compareInt x.1 y.1) x y = decide (x.1 < y.1) := by
  unfold ltOf Lib.compareInt
  by_cases h1 : x.1 < y.1
  · simp [h1]
  · by_cases h2 : y.1 < x.1 <;> simp [h1, h2]
theorem swoPt : SWO (ltOf fun x y : PtS => Lib.compareInt x.1 y.1) where
  irrefl x := by rw [ltPt]; simp
  trans x y z h1 h2 := by rw [ltPt] at *; simp at *; omega
  ntrans x y z h1 h2 := by rw [ltPt] at *; simp at *; omega
end Go.Proofs.Ytiodmhcmciohnaa

/-! slices.SortFunc of parts: the comparison. -/
namespace Go.Proofs.Ytiodmhcmciohnaa
set_option linter.unusedVariables false
set_option linter.unusedSimpArgs false
open Go.Shelf Go.RowKit Go.Lib Go.Sort

theorem cmp_any (x y : Int) (w : World) : Calls Try.prog 39 #[.int .i64 x, .int .i64 y] w fun e w' => e = .returned (.int .i64 (Lib.compareInt x y)) ∧ w = w' := by
  by_cases h1 : x < y
  · have e : Lib.compareInt x y = -1 := by unfold Lib.compareInt; simp [h1]
    rw [e]
    go_enter Try.func39, Try.ntmps39
    go_wp2
    go_ret
    exact ⟨rfl, rfl⟩
  · by_cases h2 : y < x
    · have e : Lib.compareInt x y = 1 := by unfold Lib.compareInt; simp [h1, h2]
      rw [e]
      go_enter Try.func39, Try.ntmps39
      go_wp2
      go_ret
      exact ⟨rfl, rfl⟩
    · have e : Lib.compareInt x y = 0 := by unfold Lib.compareInt; simp [h1, h2]
      rw [e]
      go_enter Try.func39, Try.ntmps39
      go_wp2
      go_ret
      exact ⟨rfl, rfl⟩

set_option maxHeartbeats 1000000 in
theorem closure_any (x y : PtS) (W : World) : Calls Try.prog 38 #[.agg #[.int .i64 x.1, .slice x.2.1 x.2.2.1 x.2.2.2], .agg #[.int .i64 y.1, .slice y.2.1 y.2.2.1 y.2.2.2]] W fun e w' => e = .returned (.int .i64 (Lib.compareInt x.1 y.1)) ∧ ∃ q os', w' = grow (W.drewN q) os' := by
  have hcon := fun W' => cmp_any x.1 y.1 W'
  generalize Lib.compareInt x.1 y.1 = r at hcon ⊢
  go_enter Try.func38, Try.ntmps38
  go_wp2_with (go_at_call 39; refine (hcon _).mono ?_; rintro e w' ⟨rfl, rfl⟩)
  go_ret
  exact ⟨rfl, 0, _, by rw [alloc_eq_grow, alloc_eq_grow, grow_grow]; rfl⟩
theorem cmpLays (blk off size : Nat) (w : World) : CmpLays Try.prog 38 #[] encPt 2 (fun x y => Lib.compareInt x.1 y.1) blk off size w :=
  fun _ _ _ _ x y => closure_any x y _
theorem isAggPt (w : World) : (isAgg 68).run Try.prog w = .ok true w := by
  simp [isAgg, run_underlying Try.underlying68]
theorem sizeOfPt (w : World) : (Go.sizeOf 68).run Try.prog w = .ok 2 w := by
  kernel_rfl

set_option maxHeartbeats 1000000 in
theorem sort_any (blk off cap : Nat) (d : Array PtS) (w : World) (hH : HoldsK encPt 2 w blk off d) (hblk : blk < w.heap.size) (hsz : d.size < 4611686018427387904) :
    Calls Try.prog 37 #[.slice (some ⟨blk, off, none⟩) d.size cap, .func (.func 38) #[] #[]] w fun e w' => e = .returned (.tuple #[]) ∧ ∃ d' n os, PermIn 0 d.size d d' ∧ SortedIn (ltOf fun x y : PtS => Lib.compareInt x.1 y.1) 0 d.size d' ∧ w' = sortWorldK encPt 2 w blk off n d' os := by
  have eg : ∀ args w, (callFunc 38 args).run Try.prog w = .ok (.enter 38 args) w := enters_of Try.func38 (by kernel_rfl) rfl
  exact AnyQ.slices_SortFunc sortPt 2 isAggPt sizeOfPt encPt (fun _ => rfl) (fun x v hv => by simp [encPt] at hv; rcases hv with rfl | rfl <;> rfl) (fun x y => Lib.compareInt x.1 y.1) swoPt 38 #[] blk off cap d w eg (cmpLays blk off d.size w) hH hblk hsz
end Go.Proofs.Ytiodmhcmciohnaa

/-! slices.SortFunc leaves a row of parts that rises as it is. -/
namespace Go.Proofs.Ytiodmhcmciohnaa
set_option linter.unusedVariables false
set_option linter.unusedSimpArgs false
open Go.Shelf Go.RowKit Go.Lib Go.Sort

theorem sorted_same (d d' : Array PtS) (hinc : ∀ i j, i < j → j < d.size → d[i]!.1 < d[j]!.1) (hp : PermIn 0 d.size d d') (hs : SortedIn (ltOf fun x y : PtS => Lib.compareInt x.1 y.1) 0 d.size d') : d' = d := by
  obtain ⟨h1, -, h3⟩ := hp
  have e1 : d'.extract 0 d.size = d' := by rw [← h1]; simp
  have e2 : d.extract 0 d.size = d := by simp
  rw [e1, e2] at h3
  have hget : ∀ (a : Array PtS) (i : Nat) (hi : i < a.toList.length), a.toList[i] = a[i]! := fun a i hi => by
    have hi' : i < a.size := by simpa using hi
    rw [getElem!_pos a i hi', Array.getElem_toList]
  have hd : d.toList.Pairwise (fun a b => a.1 ≤ b.1) := by
    rw [List.pairwise_iff_getElem]
    intro i j hi hj hij
    rw [hget, hget]
    exact Int.le_of_lt (hinc i j hij (by simpa using hj))
  have hd' : d'.toList.Pairwise (fun a b => a.1 ≤ b.1) := by
    rw [List.pairwise_iff_getElem]
    intro i j hi hj hij
    rw [hget, hget]
    have := hs i j (Nat.zero_le _) hij (by rw [← h1]; simpa using hj)
    rw [ltPt] at this
    simpa using this
  refine Array.toList_inj.1 (List.Perm.eq_of_pairwise (le := fun a b : PtS => a.1 ≤ b.1) (fun a b ha hb h1 h2 => ?_) hd' hd h3)
  have ha' := (h3.mem_iff).1 ha
  obtain ⟨i, hi, rfl⟩ := List.mem_iff_getElem.1 ha'
  obtain ⟨j, hj, rfl⟩ := List.mem_iff_getElem.1 hb
  rcases Nat.lt_trichotomy i j with h | h | h
  · have := hinc i j h (by simpa using hj)
    rw [hget, hget] at h1 h2
    omega
  · subst h; rfl
  · have := hinc j i h (by simpa using hi)
    rw [hget, hget] at h1 h2
    omega
theorem sort_same (blk off cap : Nat) (d : Array PtS) (w : World) (hH : HoldsK encPt 2 w blk off d) (hblk : blk < w.heap.size) (hsz : d.size < 4611686018427387904) (hinc : ∀ i j, i < j → j < d.size → d[i]!.1 < d[j]!.1) :
    Calls Try.prog 37 #[.slice (some ⟨blk, off, none⟩) d.size cap, .func (.func 38) #[] #[]] w fun e w' => e = .returned (.tuple #[]) ∧ ∃ n os, w' = sortWorldK encPt 2 w blk off n d os :=
  (sort_any blk off cap d w hH hblk hsz).mono fun e w' ⟨he, d', n, os, hp, hs, hw⟩ => ⟨he, n, os, by rw [hw, sorted_same d d' hinc hp hs]⟩
end Go.Proofs.Ytiodmhcmciohnaa
