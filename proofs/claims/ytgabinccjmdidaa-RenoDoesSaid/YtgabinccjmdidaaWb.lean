/- Walks over reno's window: what is lost, what comes twice, another size. -/
import Derived.Test.YtgabinccjmdidaaWa
import Derived.Deep.RegionWith
namespace Go.Proofs.Ytgabinccjmdidaa
open Go.RowKit
theorem cap_bd (n : Int) (h : 0 ≤ n) : 0 ≤ cap n ∧ cap n ≤ 65535 := by unfold cap; omega

set_option maxHeartbeats 2000000 in
theorem shrink_told (b k : Nat) (x : St) (f : Int) (w : World) (hb : RowAt w b x.cells 46) (ok : Ok k x) (hf0 : 0 ≤ f) (hf1 : f ≤ 9223372036854775807) :
    Calls Try.prog 20 #[.pointer (some ⟨b, 0, none⟩), .int .i64 0, .int .i64 f] w (Meth b 46 (.tuple #[]) ⟨x.m, cap (half x f + 3 * x.m), half x f, x.d, 0, true⟩ w) := by
  obtain ⟨c0, c1, c2, c3, c4, c5, hf⟩ := Win.open hb
  have hend := hb
  obtain ⟨m, s, e, d, p, r⟩ := x
  obtain ⟨b1, b2, b3, b4, b5, b6, b7, b8, b9, b10⟩ := ok
  simp only at b1 b2 b3 b4 b5 b6 b7 b8 b9 b10 c0 c1 c2 c3 c4 c5
  by_cases hmax : f / 2 < 2 * m
  · simp only [show half ⟨m, s, e, d, p, r⟩ f = cap (2 * m) by unfold half; simp only; congr 1; omega]
    obtain ⟨q0, q1⟩ := cap_bd (2 * m) (by omega)
    go_enter Try.func20, Try.ntmps20
    go_wp2_with (go_at_call 19; refine (cap16_any _ _).mono ?_; rintro e w' ⟨rfl, rfl⟩)
    refine region_draws_tail 14 (by kernel_rfl) (by kernel_rfl) ?_
    simp only [List.take_succ_cons, List.take_zero, List.drop_succ_cons, List.drop_zero]
    repeat (go_big_quiet_step (first | (with_reducible exact quiet_same2 (cap16_any _ _)) | (with_reducible exact quiet_same (cap16_any _ _))))
    refine wpQuiet_nil ?_
    rintro _ ⟨nq, rfl⟩
    go_wp2
    go_end0
    refine ⟨rfl, ?_, ?_⟩
    · apply RowAt.eq
      repeat (first | with_reducible apply RowAt.set | with_reducible apply RowAt.drewN | with_reducible apply RowAt.drew | with_reducible exact hb)
      rfl
    · repeat (first | with_reducible exact Keeps.refl _ _ | with_reducible refine Keeps.setCell ?_ _ _ (.inl rfl) | with_reducible refine Keeps.drewN ?_ _ | with_reducible refine Keeps.drew ?_)
  · simp only [show half ⟨m, s, e, d, p, r⟩ f = cap (f / 2) by unfold half; simp only; congr 1; omega]
    obtain ⟨q0, q1⟩ := cap_bd (f / 2) (by omega)
    go_enter Try.func20, Try.ntmps20
    go_wp2_with (go_at_call 19; refine (cap16_any _ _).mono ?_; rintro e w' ⟨rfl, rfl⟩)
    refine region_draws_tail 14 (by kernel_rfl) (by kernel_rfl) ?_
    simp only [List.take_succ_cons, List.take_zero, List.drop_succ_cons, List.drop_zero]
    repeat (go_big_quiet_step (first | (with_reducible exact quiet_same2 (cap16_any _ _)) | (with_reducible exact quiet_same (cap16_any _ _))))
    refine wpQuiet_nil ?_
    rintro _ ⟨nq, rfl⟩
    go_wp2
    go_end0
    refine ⟨rfl, ?_, ?_⟩
    · apply RowAt.eq
      repeat (first | with_reducible apply RowAt.set | with_reducible apply RowAt.drewN | with_reducible apply RowAt.drew | with_reducible exact hb)
      rfl
    · repeat (first | with_reducible exact Keeps.refl _ _ | with_reducible refine Keeps.setCell ?_ _ _ (.inl rfl) | with_reducible refine Keeps.drewN ?_ _ | with_reducible refine Keeps.drew ?_)

set_option maxHeartbeats 2000000 in
theorem shrink_never (b k : Nat) (x : St) (f : Int) (w : World) (hb : RowAt w b x.cells 46) (ok : Ok k x) (hf0 : 0 ≤ f) (hf1 : f ≤ 9223372036854775807) :
    Calls Try.prog 20 #[.pointer (some ⟨b, 0, none⟩), .int .i64 1, .int .i64 f] w (Meth b 46 (.tuple #[]) ⟨x.m, x.m, half x f, 0, 0, false⟩ w) := by
  obtain ⟨c0, c1, c2, c3, c4, c5, hf⟩ := Win.open hb
  have hend := hb
  obtain ⟨m, s, e, d, p, r⟩ := x
  obtain ⟨b1, b2, b3, b4, b5, b6, b7, b8, b9, b10⟩ := ok
  simp only at b1 b2 b3 b4 b5 b6 b7 b8 b9 b10 c0 c1 c2 c3 c4 c5
  by_cases hmax : f / 2 < 2 * m
  · simp only [show half ⟨m, s, e, d, p, r⟩ f = cap (2 * m) by unfold half; simp only; congr 1; omega]
    go_enter Try.func20, Try.ntmps20
    go_wp2_with (go_at_call 19; refine (cap16_any _ _).mono ?_; rintro e w' ⟨rfl, rfl⟩)
    go_end0
    refine ⟨rfl, ?_, ?_⟩
    · apply RowAt.eq
      repeat (first | with_reducible apply RowAt.set | with_reducible apply RowAt.drewN | with_reducible apply RowAt.drew | with_reducible exact hb)
      rfl
    · repeat (first | with_reducible exact Keeps.refl _ _ | with_reducible refine Keeps.setCell ?_ _ _ (.inl rfl) | with_reducible refine Keeps.drewN ?_ _ | with_reducible refine Keeps.drew ?_)
  · simp only [show half ⟨m, s, e, d, p, r⟩ f = cap (f / 2) by unfold half; simp only; congr 1; omega]
    go_enter Try.func20, Try.ntmps20
    go_wp2_with (go_at_call 19; refine (cap16_any _ _).mono ?_; rintro e w' ⟨rfl, rfl⟩)
    go_end0
    refine ⟨rfl, ?_, ?_⟩
    · apply RowAt.eq
      repeat (first | with_reducible apply RowAt.set | with_reducible apply RowAt.drewN | with_reducible apply RowAt.drew | with_reducible exact hb)
      rfl
    · repeat (first | with_reducible exact Keeps.refl _ _ | with_reducible refine Keeps.setCell ?_ _ _ (.inl rfl) | with_reducible refine Keeps.drewN ?_ _ | with_reducible refine Keeps.drew ?_)

set_option maxHeartbeats 2000000 in
theorem lost_neg (b : Nat) (x : St) (f : Int) (w : World) (hb : RowAt w b x.cells 46) (hn : f < 0) :
    Calls Try.prog 9 #[.pointer (some ⟨b, 0, none⟩), .int .i64 f] w (Meth b 46 (.int .i64 (negE f)) (lostS x f) w) := by
  simp only [show negE f = 1 by simp [negE, hn], show lostS x f = x by simp [lostS, hn]]
  go_enter Try.func9, Try.ntmps9
  go_wp2
  go_ret
  exact ⟨rfl, hb, Keeps.refl _ _⟩

set_option maxHeartbeats 2000000 in
theorem lost_good (b k : Nat) (x : St) (f : Int) (w : World) (hb : RowAt w b x.cells 46) (ok : Ok k x) (hf0 : 0 ≤ f) (hf1 : f ≤ 9223372036854775807) :
    Calls Try.prog 9 #[.pointer (some ⟨b, 0, none⟩), .int .i64 f] w (Meth b 46 (.int .i64 (negE f)) (lostS x f) w) := by
  have hn : ¬ f < 0 := by omega
  simp only [show negE f = 0 by simp [negE, hn], show lostS x f = ⟨x.m, x.m, half x f, 0, 0, false⟩ by simp [lostS, hn]]
  go_enter Try.func9, Try.ntmps9
  go_wp2_with (go_at_call 20; refine (shrink_never b k x f _ hb ok hf0 hf1).mono ?_; rintro e w' ⟨rfl, hr, hk⟩)
  go_ret
  exact ⟨rfl, hr, hk⟩

set_option maxHeartbeats 2000000 in
theorem dup_neg (b : Nat) (x : St) (f : Int) (w : World) (hb : RowAt w b x.cells 46) (hn : f < 0) :
    Calls Try.prog 16 #[.pointer (some ⟨b, 0, none⟩), .int .i64 f] w (Meth b 46 (.tuple #[.bool (dupB x f), .int .i64 (negE f)]) (dupS x f) w) := by
  simp only [show negE f = 1 by simp [negE, hn], show dupS x f = x by simp [dupS, hn], show dupB x f = false by simp [dupB]; omega]
  go_enter Try.func16, Try.ntmps16
  go_wp2
  go_ret2
  exact ⟨rfl, hb, Keeps.refl _ _⟩

set_option maxHeartbeats 2000000 in
theorem dup_good (b k : Nat) (x : St) (f : Int) (w : World) (hb : RowAt w b x.cells 46) (ok : Ok k x) (hk : k ≤ 1000000) (hf0 : 0 ≤ f) (hf1 : f ≤ 9223372036854775807) :
    Calls Try.prog 16 #[.pointer (some ⟨b, 0, none⟩), .int .i64 f] w (Meth b 46 (.tuple #[.bool (dupB x f), .int .i64 (negE f)]) (dupS x f) w) := by
  have hn : ¬ f < 0 := by omega
  rw [show negE f = 0 by simp [negE, hn]]
  have okk := ok
  obtain ⟨c0, c1, c2, c3, c4, c5, hf⟩ := Win.open hb
  have hend := hb
  obtain ⟨m, s, e, d, p, r⟩ := x
  obtain ⟨b1, b2, b3, b4, b5, b6, b7, b8, b9, b10⟩ := ok
  simp only at b1 b2 b3 b4 b5 b6 b7 b8 b9 b10 c0 c1 c2 c3 c4 c5
  cases r
  · by_cases hd : d = 2
    · subst hd
      rw [show dupS ⟨m, s, e, 2, p, false⟩ f = ⟨m, cap (half ⟨m, s, e, 3, p, false⟩ f + 3 * m), half ⟨m, s, e, 3, p, false⟩ f, 3, 0, true⟩ by simp [dupS, hn, half]]
      rw [show dupB ⟨m, s, e, 2, p, false⟩ f = true by simp [dupB]; omega]
      have ok' : Ok (k + 1) ⟨m, s, e, 3, p, false⟩ := by constructor <;> simp only [] <;> omega
      clear hn
      go_enter Try.func16, Try.ntmps16
      go_wp2_with fail
      refine (shrink_told b (k + 1) ⟨m, s, e, 3, p, false⟩ f _ (by exact hb.set 3 (.int .i64 3)) ok' hf0 hf1).mono ?_
      rintro e w' ⟨rfl, hr, hk⟩
      go_wp2
      go_ret2
      refine ⟨rfl, hr, Keeps.trans ?_ hk (fun _ _ h => h)⟩
      repeat (first | with_reducible exact Keeps.refl _ _ | with_reducible refine Keeps.setCell ?_ _ _ (.inl rfl) | with_reducible refine Keeps.drewN ?_ _ | with_reducible refine Keeps.drew ?_)
    · rw [show dupS ⟨m, s, e, d, p, false⟩ f = ⟨m, s, e, d + 1, p, false⟩ by simp [dupS, hn, hd]]
      rw [show dupB ⟨m, s, e, d, p, false⟩ f = false by simp [dupB, hd]]
      have h3 : (d + 1 == 3) = false := by simp; omega
      clear hn hd
      go_enter Try.func16, Try.ntmps16
      go_wp2
      go_ret2
      refine ⟨rfl, ?_, ?_⟩
      · apply RowAt.eq
        repeat (first | with_reducible apply RowAt.set | with_reducible apply RowAt.drewN | with_reducible apply RowAt.drew | with_reducible exact hb)
        rfl
      · repeat (first | with_reducible exact Keeps.refl _ _ | with_reducible refine Keeps.setCell ?_ _ _ (.inl rfl) | with_reducible refine Keeps.drewN ?_ _ | with_reducible refine Keeps.drew ?_)
  · rw [show dupS ⟨m, s, e, d, p, true⟩ f = ⟨m, cap (s + m), e, d + 1, p, true⟩ by simp [dupS, hn]]
    rw [show dupB ⟨m, s, e, d, p, true⟩ f = false by simp [dupB]]
    clear hn
    go_enter Try.func16, Try.ntmps16
    go_wp2
    refine region_draws_tail 13 (by kernel_rfl) (by kernel_rfl) ?_
    simp only [List.take_succ_cons, List.take_zero, List.drop_succ_cons, List.drop_zero]
    repeat (go_big_quiet_step (first | (with_reducible exact quiet_same2 (cap16_any _ _)) | (with_reducible exact quiet_same (cap16_any _ _))))
    refine wpQuiet_nil ?_
    rintro _ ⟨nq, rfl⟩
    go_wp2
    go_ret2
    refine ⟨rfl, ?_, ?_⟩
    · apply RowAt.eq
      repeat (first | with_reducible apply RowAt.set | with_reducible apply RowAt.drewN | with_reducible apply RowAt.drew | with_reducible exact hb)
      rfl
    · repeat (first | with_reducible exact Keeps.refl _ _ | with_reducible refine Keeps.setCell ?_ _ _ (.inl rfl) | with_reducible refine Keeps.drewN ?_ _ | with_reducible refine Keeps.drew ?_)

set_option maxHeartbeats 2000000 in
theorem res_bad (b : Nat) (x : St) (n : Int) (w : World) (hb : RowAt w b x.cells 46) (hn : bad n = true) :
    Calls Try.prog 17 #[.pointer (some ⟨b, 0, none⟩), .int .i64 n] w (Meth b 46 (.int .i64 (resE n)) (resS x n) w) := by
  simp only [show resE n = 1 by simp [resE, hn], show resS x n = x by simp [resS, hn]]
  have H := Lib.hid hn; clear hn
  go_enter Try.func17, Try.ntmps17
  go_wp2_with (go_at_call 18; refine (may_any _ _).mono ?_; rintro e w' ⟨rfl, rfl⟩; rw [H.out])
  go_ret
  exact ⟨rfl, hb, Keeps.refl _ _⟩

end Go.Proofs.Ytgabinccjmdidaa
