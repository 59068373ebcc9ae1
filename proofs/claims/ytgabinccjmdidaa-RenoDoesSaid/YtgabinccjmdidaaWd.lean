/- Walks over the document's window: the same plain functions. -/
import Derived.Test.YtgabinccjmdidaaWb
namespace Go.Proofs.Ytgabinccjmdidaa
open Go.RowKit
theorem cap_big {n : Int} (h : 65535 < n) : cap n = 65535 := by unfold cap; omega
theorem cap_small {n : Int} (h : ¬ 65535 < n) : cap n = n := by unfold cap; omega

set_option maxHeartbeats 400000 in
theorem rnew_bad (m : Int) (w : World) (h : bad m = true) :
    Calls Try.prog 14 #[.int .i64 m] w fun e w' => e = .returned (.tuple #[.pointer none, .int .i64 1]) ∧ w = w' := by
  have h1 : m < 1 ∨ 65535 < m := by simpa [bad] using h
  clear h
  rcases h1 with h1 | h1
  · go_enter Try.func14, Try.ntmps14
    go_wp2
    go_ret2
    exact ⟨rfl, rfl⟩
  · have h2 : 1 ≤ m := by omega
    go_enter Try.func14, Try.ntmps14
    go_wp2
    go_ret2
    exact ⟨rfl, rfl⟩

set_option maxHeartbeats 400000 in
theorem rnew_good (m : Int) (w : World) (h : bad m = false) :
    Calls Try.prog 14 #[.int .i64 m] w (Makes 38 (newS m) w) := by
  obtain ⟨h1, h2⟩ := bad_false h
  clear h
  by_cases hq : 65535 < 2 * m
  · rw [show newS m = ⟨m, 65535, 65535, 0, 0, false⟩ by unfold newS; rw [cap_big hq]]
    go_enter Try.func14, Try.ntmps14
    go_wp2
    go_ret2
    exact ⟨w.heap.size, Nat.le_refl _, rfl, RowAt.new _ _ _, (Keeps.refl _ _).alloc _⟩
  · rw [show newS m = ⟨m, 2 * m, 65535, 0, 0, false⟩ by unfold newS; rw [cap_small hq]]
    go_enter Try.func14, Try.ntmps14
    go_wp2
    go_ret2
    exact ⟨w.heap.size, Nat.le_refl _, rfl, RowAt.new _ _ _, (Keeps.refl _ _).alloc _⟩

set_option maxHeartbeats 1000000 in
theorem rack_bad (b : Nat) (x : St) (n : Int) (w : World) (hb : RowAt w b x.cells 38) (hn : badN n = true) :
    Calls Try.prog 21 #[.pointer (some ⟨b, 0, none⟩), .int .i64 n] w (Meth b 38 (.int .i64 (ackE n)) (ackS x n) w) := by
  have h1 : n < 1 ∨ 1000000 < n := by simpa [badN] using hn
  rw [show ackE n = 1 by simp [ackE, hn], show ackS x n = x by simp [ackS, hn]]
  clear hn
  rcases h1 with h1 | h1
  · go_enter Try.func21, Try.ntmps21
    go_wp2
    go_ret
    exact ⟨rfl, hb, Keeps.refl _ _⟩
  · have h2 : 1 ≤ n := by omega
    go_enter Try.func21, Try.ntmps21
    go_wp2
    go_ret
    exact ⟨rfl, hb, Keeps.refl _ _⟩

set_option maxHeartbeats 4000000 in
theorem rack_good (b k : Nat) (x : St) (n : Int) (w : World) (hb : RowAt w b x.cells 38) (ok : Ok k x) (hk : k ≤ 1000000) (hn : badN n = false) :
    Calls Try.prog 21 #[.pointer (some ⟨b, 0, none⟩), .int .i64 n] w (Meth b 38 (.int .i64 (ackE n)) (ackS x n) w) := by
  obtain ⟨h1, h2⟩ := badN_false hn
  have H := Lib.hid hn; clear hn
  obtain ⟨c0, c1, c2, c3, c4, c5, hf⟩ := Win.open hb
  have hend := hb
  obtain ⟨m, s, e, d, p, r⟩ := x
  obtain ⟨b1, b2, b3, b4, b5, b6, b7, b8, b9, b10⟩ := ok
  simp only at b1 b2 b3 b4 b5 b6 b7 b8 b9 b10 c0 c1 c2 c3 c4 c5
  rw [show ackE n = 0 by simp [ackE, H.out]]
  cases r
  · by_cases hse : s < e
    · by_cases hnm : m < n
      · by_cases hq : 65535 < s + m
        · rw [show ackS ⟨m, s, e, d, p, false⟩ n = ⟨m, 65535, e, 0, p, false⟩ by simp [ackS, H.out, hse]; rw [← cap_big hq]; congr 1; omega]
          go_enter Try.func21, Try.ntmps21
          go_wp2
          go_quiet (fail)
          go_wp2
          refine region_draws_tail 15 (by kernel_rfl) (by kernel_rfl) ?_
          simp only [List.take_succ_cons, List.take_zero, List.drop_succ_cons, List.drop_zero]
          repeat (go_big_quiet_step (fail))
          refine wpQuiet_nil ?_
          rintro _ ⟨nq, rfl⟩
          go_wp2
          go_ret
          refine ⟨rfl, ?_, ?_⟩
          · apply RowAt.eq
            repeat (first | with_reducible apply RowAt.set | with_reducible apply RowAt.drewN | with_reducible apply RowAt.drew | with_reducible exact hb)
            rfl
          · repeat (first | with_reducible exact Keeps.refl _ _ | with_reducible refine Keeps.setCell ?_ _ _ (.inl rfl) | with_reducible refine Keeps.drewN ?_ _ | with_reducible refine Keeps.drew ?_)
        · rw [show ackS ⟨m, s, e, d, p, false⟩ n = ⟨m, s + m, e, 0, p, false⟩ by simp [ackS, H.out, hse]; rw [← cap_small hq]; congr 1; omega]
          go_enter Try.func21, Try.ntmps21
          go_wp2
          go_quiet (fail)
          go_wp2
          refine region_draws_tail 15 (by kernel_rfl) (by kernel_rfl) ?_
          simp only [List.take_succ_cons, List.take_zero, List.drop_succ_cons, List.drop_zero]
          repeat (go_big_quiet_step (fail))
          refine wpQuiet_nil ?_
          rintro _ ⟨nq, rfl⟩
          go_wp2
          go_ret
          refine ⟨rfl, ?_, ?_⟩
          · apply RowAt.eq
            repeat (first | with_reducible apply RowAt.set | with_reducible apply RowAt.drewN | with_reducible apply RowAt.drew | with_reducible exact hb)
            rfl
          · repeat (first | with_reducible exact Keeps.refl _ _ | with_reducible refine Keeps.setCell ?_ _ _ (.inl rfl) | with_reducible refine Keeps.drewN ?_ _ | with_reducible refine Keeps.drew ?_)
      · by_cases hq : 65535 < s + n
        · rw [show ackS ⟨m, s, e, d, p, false⟩ n = ⟨m, 65535, e, 0, p, false⟩ by simp [ackS, H.out, hse]; rw [← cap_big hq]; congr 1; omega]
          go_enter Try.func21, Try.ntmps21
          go_wp2
          go_quiet (fail)
          go_wp2
          refine region_draws_tail 15 (by kernel_rfl) (by kernel_rfl) ?_
          simp only [List.take_succ_cons, List.take_zero, List.drop_succ_cons, List.drop_zero]
          repeat (go_big_quiet_step (fail))
          refine wpQuiet_nil ?_
          rintro _ ⟨nq, rfl⟩
          go_wp2
          go_ret
          refine ⟨rfl, ?_, ?_⟩
          · apply RowAt.eq
            repeat (first | with_reducible apply RowAt.set | with_reducible apply RowAt.drewN | with_reducible apply RowAt.drew | with_reducible exact hb)
            rfl
          · repeat (first | with_reducible exact Keeps.refl _ _ | with_reducible refine Keeps.setCell ?_ _ _ (.inl rfl) | with_reducible refine Keeps.drewN ?_ _ | with_reducible refine Keeps.drew ?_)
        · rw [show ackS ⟨m, s, e, d, p, false⟩ n = ⟨m, s + n, e, 0, p, false⟩ by simp [ackS, H.out, hse]; rw [← cap_small hq]; congr 1; omega]
          go_enter Try.func21, Try.ntmps21
          go_wp2
          go_quiet (fail)
          go_wp2
          refine region_draws_tail 15 (by kernel_rfl) (by kernel_rfl) ?_
          simp only [List.take_succ_cons, List.take_zero, List.drop_succ_cons, List.drop_zero]
          repeat (go_big_quiet_step (fail))
          refine wpQuiet_nil ?_
          rintro _ ⟨nq, rfl⟩
          go_wp2
          go_ret
          refine ⟨rfl, ?_, ?_⟩
          · apply RowAt.eq
            repeat (first | with_reducible apply RowAt.set | with_reducible apply RowAt.drewN | with_reducible apply RowAt.drew | with_reducible exact hb)
            rfl
          · repeat (first | with_reducible exact Keeps.refl _ _ | with_reducible refine Keeps.setCell ?_ _ _ (.inl rfl) | with_reducible refine Keeps.drewN ?_ _ | with_reducible refine Keeps.drew ?_)
    · by_cases hps : s ≤ p + n
      · by_cases hq : 65535 < s + m
        · rw [show ackS ⟨m, s, e, d, p, false⟩ n = ⟨m, 65535, e, 0, p + n - s, false⟩ by simp [ackS, H.out, hse, hps]; rw [cap_big hq]]
          go_enter Try.func21, Try.ntmps21
          go_wp2
          go_quiet (fail)
          go_wp2
          go_quiet (fail)
          go_wp2
          refine region_draws_tail 12 (by kernel_rfl) (by kernel_rfl) ?_
          simp only [List.take_succ_cons, List.take_zero, List.drop_succ_cons, List.drop_zero]
          repeat (go_big_quiet_step (fail))
          refine wpQuiet_nil ?_
          rintro _ ⟨nq, rfl⟩
          go_wp2
          refine region_draws_tail 13 (by kernel_rfl) (by kernel_rfl) ?_
          simp only [List.take_succ_cons, List.take_zero, List.drop_succ_cons, List.drop_zero]
          repeat (go_big_quiet_step (fail))
          refine wpQuiet_nil ?_
          rintro _ ⟨nq, rfl⟩
          go_wp2
          go_ret
          refine ⟨rfl, ?_, ?_⟩
          · apply RowAt.eq
            repeat (first | with_reducible apply RowAt.set | with_reducible apply RowAt.drewN | with_reducible apply RowAt.drew | with_reducible exact hb)
            rfl
          · repeat (first | with_reducible exact Keeps.refl _ _ | with_reducible refine Keeps.setCell ?_ _ _ (.inl rfl) | with_reducible refine Keeps.drewN ?_ _ | with_reducible refine Keeps.drew ?_)
        · rw [show ackS ⟨m, s, e, d, p, false⟩ n = ⟨m, s + m, e, 0, p + n - s, false⟩ by simp [ackS, H.out, hse, hps]; rw [cap_small hq]]
          go_enter Try.func21, Try.ntmps21
          go_wp2
          go_quiet (fail)
          go_wp2
          go_quiet (fail)
          go_wp2
          refine region_draws_tail 12 (by kernel_rfl) (by kernel_rfl) ?_
          simp only [List.take_succ_cons, List.take_zero, List.drop_succ_cons, List.drop_zero]
          repeat (go_big_quiet_step (fail))
          refine wpQuiet_nil ?_
          rintro _ ⟨nq, rfl⟩
          go_wp2
          refine region_draws_tail 13 (by kernel_rfl) (by kernel_rfl) ?_
          simp only [List.take_succ_cons, List.take_zero, List.drop_succ_cons, List.drop_zero]
          repeat (go_big_quiet_step (fail))
          refine wpQuiet_nil ?_
          rintro _ ⟨nq, rfl⟩
          go_wp2
          go_ret
          refine ⟨rfl, ?_, ?_⟩
          · apply RowAt.eq
            repeat (first | with_reducible apply RowAt.set | with_reducible apply RowAt.drewN | with_reducible apply RowAt.drew | with_reducible exact hb)
            rfl
          · repeat (first | with_reducible exact Keeps.refl _ _ | with_reducible refine Keeps.setCell ?_ _ _ (.inl rfl) | with_reducible refine Keeps.drewN ?_ _ | with_reducible refine Keeps.drew ?_)
      · rw [show ackS ⟨m, s, e, d, p, false⟩ n = ⟨m, s, e, 0, p + n, false⟩ by simp [ackS, H.out, hse, hps]]
        go_enter Try.func21, Try.ntmps21
        go_wp2
        go_quiet (fail)
        go_wp2
        go_quiet (fail)
        go_wp2
        go_ret
        refine ⟨rfl, ?_, ?_⟩
        · apply RowAt.eq
          repeat (first | with_reducible apply RowAt.set | with_reducible apply RowAt.drewN | with_reducible apply RowAt.drew | with_reducible exact hb)
          rfl
        · repeat (first | with_reducible exact Keeps.refl _ _ | with_reducible refine Keeps.setCell ?_ _ _ (.inl rfl) | with_reducible refine Keeps.drewN ?_ _ | with_reducible refine Keeps.drew ?_)
  · rw [show ackS ⟨m, s, e, d, p, true⟩ n = ⟨m, e, e, 0, p, false⟩ by simp [ackS, H.out]]
    go_enter Try.func21, Try.ntmps21
    go_wp2
    go_ret
    refine ⟨rfl, ?_, ?_⟩
    · apply RowAt.eq
      repeat (first | with_reducible apply RowAt.set | with_reducible apply RowAt.drewN | with_reducible apply RowAt.drew | with_reducible exact hb)
      rfl
    · repeat (first | with_reducible exact Keeps.refl _ _ | with_reducible refine Keeps.setCell ?_ _ _ (.inl rfl) | with_reducible refine Keeps.drewN ?_ _ | with_reducible refine Keeps.drew ?_)

set_option maxHeartbeats 400000 in
theorem half_any (b k : Nat) (x : St) (f : Int) (w : World) (hb : RowAt w b x.cells 38) (ok : Ok k x) (hf0 : 0 ≤ f) (hf1 : f ≤ 9223372036854775807) :
    Calls Try.prog 25 #[.pointer (some ⟨b, 0, none⟩), .int .i64 f] w fun e w' => e = .returned (.int .i64 (half x f)) ∧ w = w' := by
  obtain ⟨c0, c1, c2, c3, c4, c5, hf⟩ := Win.open hb
  have hend := hb
  obtain ⟨m, s, e, d, p, r⟩ := x
  obtain ⟨b1, b2, b3, b4, b5, b6, b7, b8, b9, b10⟩ := ok
  simp only at b1 b2 b3 b4 b5 b6 b7 b8 b9 b10 c0 c1 c2 c3 c4 c5
  by_cases hmax : f / 2 < 2 * m
  · rw [show half ⟨m, s, e, d, p, r⟩ f = cap (2 * m) by unfold half; simp only; congr 1; omega]
    by_cases hq : 65535 < 2 * m
    · rw [cap_big hq]
      go_enter Try.func25, Try.ntmps25
      go_wp2
      go_ret
      exact ⟨rfl, rfl⟩
    · rw [cap_small hq]
      go_enter Try.func25, Try.ntmps25
      go_wp2
      go_ret
      exact ⟨rfl, rfl⟩
  · rw [show half ⟨m, s, e, d, p, r⟩ f = cap (f / 2) by unfold half; simp only; congr 1; omega]
    by_cases hq : 65535 < f / 2
    · rw [cap_big hq]
      go_enter Try.func25, Try.ntmps25
      go_wp2
      go_ret
      exact ⟨rfl, rfl⟩
    · rw [cap_small hq]
      go_enter Try.func25, Try.ntmps25
      go_wp2
      go_ret
      exact ⟨rfl, rfl⟩

set_option maxHeartbeats 2000000 in
theorem rlost_any (b k : Nat) (x : St) (f : Int) (w : World) (hb : RowAt w b x.cells 38) (ok : Ok k x) (hf1 : f ≤ 9223372036854775807) :
    Calls Try.prog 23 #[.pointer (some ⟨b, 0, none⟩), .int .i64 f] w (Meth b 38 (.int .i64 (negE f)) (lostS x f) w) := by
  by_cases hn : f < 0
  · simp only [show negE f = 1 by simp [negE, hn], show lostS x f = x by simp [lostS, hn]]
    go_enter Try.func23, Try.ntmps23
    go_wp2
    go_ret
    exact ⟨rfl, hb, Keeps.refl _ _⟩
  · simp only [show negE f = 0 by simp [negE, hn], show lostS x f = ⟨x.m, x.m, half x f, 0, 0, false⟩ by simp [lostS, hn]]
    have okk := ok
    have hbb := hb
    obtain ⟨c0, c1, c2, c3, c4, c5, hf⟩ := Win.open hb
    have hend := hb
    obtain ⟨m, s, e, d, p, r⟩ := x
    obtain ⟨b1, b2, b3, b4, b5, b6, b7, b8, b9, b10⟩ := ok
    simp only at b1 b2 b3 b4 b5 b6 b7 b8 b9 b10 c0 c1 c2 c3 c4 c5
    go_enter Try.func23, Try.ntmps23
    go_wp2_with (go_at_call 25; refine (half_any b k ⟨m, s, e, d, p, r⟩ f _ hbb okk (by omega) hf1).mono ?_; rintro e w' ⟨rfl, rfl⟩)
    go_ret
    refine ⟨rfl, ?_, ?_⟩
    · apply RowAt.eq
      repeat (first | with_reducible apply RowAt.set | with_reducible apply RowAt.drewN | with_reducible apply RowAt.drew | with_reducible exact hb)
      rfl
    · repeat (first | with_reducible exact Keeps.refl _ _ | with_reducible refine Keeps.setCell ?_ _ _ (.inl rfl) | with_reducible refine Keeps.drewN ?_ _ | with_reducible refine Keeps.drew ?_)

set_option maxHeartbeats 2000000 in
theorem rdup_any (b k : Nat) (x : St) (f : Int) (w : World) (hb : RowAt w b x.cells 38) (ok : Ok k x) (hk : k ≤ 1000000) (hf1 : f ≤ 9223372036854775807) :
    Calls Try.prog 22 #[.pointer (some ⟨b, 0, none⟩), .int .i64 f] w (Meth b 38 (.tuple #[.bool (dupB x f), .int .i64 (negE f)]) (dupS x f) w) := by
  by_cases hn : f < 0
  · simp only [show negE f = 1 by simp [negE, hn], show dupS x f = x by simp [dupS, hn], show dupB x f = false by simp [dupB]; omega]
    go_enter Try.func22, Try.ntmps22
    go_wp2
    go_ret2
    exact ⟨rfl, hb, Keeps.refl _ _⟩
  rw [show negE f = 0 by simp [negE, hn]]
  have okk := ok
  obtain ⟨c0, c1, c2, c3, c4, c5, hf⟩ := Win.open hb
  have hend := hb
  obtain ⟨m, s, e, d, p, r⟩ := x
  obtain ⟨b1, b2, b3, b4, b5, b6, b7, b8, b9, b10⟩ := ok
  simp only at b1 b2 b3 b4 b5 b6 b7 b8 b9 b10 c0 c1 c2 c3 c4 c5
  cases r
  · by_cases hd : d = 2
    · subst hd
      have ok' : Ok (k + 1) ⟨m, s, e, 3, p, false⟩ := by constructor <;> simp only [] <;> omega
      obtain ⟨q0, q1⟩ := half_bd f ok'
      simp only at q0
      rw [show dupB ⟨m, s, e, 2, p, false⟩ f = true by simp [dupB]; omega]
      rw [show dupS ⟨m, s, e, 2, p, false⟩ f = ⟨m, cap (half ⟨m, s, e, 3, p, false⟩ f + 3 * m), half ⟨m, s, e, 3, p, false⟩ f, 3, 0, true⟩ by simp [dupS, hn, half]]
      by_cases hq : 65535 < half ⟨m, s, e, 3, p, false⟩ f + 3 * m
      · rw [cap_big hq]
        have hn0 : 0 ≤ f := by omega
        clear hn
        go_enter Try.func22, Try.ntmps22
        go_wp2_with (go_at_call 25; refine (half_any b (k + 1) ⟨m, s, e, 3, p, false⟩ f _ (by exact hb.set 3 (.int .i64 3)) ok' (by omega) hf1).mono ?_; rintro e w' ⟨rfl, rfl⟩)
        refine region_draws_tail 14 (by kernel_rfl) (by kernel_rfl) ?_
        simp only [List.take_succ_cons, List.take_zero, List.drop_succ_cons, List.drop_zero]
        repeat (go_big_quiet_step (fail))
        refine wpQuiet_nil ?_
        rintro _ ⟨nq, rfl⟩
        go_wp2
        go_ret2
        refine ⟨rfl, ?_, ?_⟩
        · apply RowAt.eq
          repeat (first | with_reducible apply RowAt.set | with_reducible apply RowAt.drewN | with_reducible apply RowAt.drew | with_reducible exact hb)
          rfl
        · repeat (first | with_reducible exact Keeps.refl _ _ | with_reducible refine Keeps.setCell ?_ _ _ (.inl rfl) | with_reducible refine Keeps.drewN ?_ _ | with_reducible refine Keeps.drew ?_)
      · rw [cap_small hq]
        have hn0 : 0 ≤ f := by omega
        clear hn
        go_enter Try.func22, Try.ntmps22
        go_wp2_with (go_at_call 25; refine (half_any b (k + 1) ⟨m, s, e, 3, p, false⟩ f _ (by exact hb.set 3 (.int .i64 3)) ok' (by omega) hf1).mono ?_; rintro e w' ⟨rfl, rfl⟩)
        refine region_draws_tail 14 (by kernel_rfl) (by kernel_rfl) ?_
        simp only [List.take_succ_cons, List.take_zero, List.drop_succ_cons, List.drop_zero]
        repeat (go_big_quiet_step (fail))
        refine wpQuiet_nil ?_
        rintro _ ⟨nq, rfl⟩
        go_wp2
        go_ret2
        refine ⟨rfl, ?_, ?_⟩
        · apply RowAt.eq
          repeat (first | with_reducible apply RowAt.set | with_reducible apply RowAt.drewN | with_reducible apply RowAt.drew | with_reducible exact hb)
          rfl
        · repeat (first | with_reducible exact Keeps.refl _ _ | with_reducible refine Keeps.setCell ?_ _ _ (.inl rfl) | with_reducible refine Keeps.drewN ?_ _ | with_reducible refine Keeps.drew ?_)
    · rw [show dupS ⟨m, s, e, d, p, false⟩ f = ⟨m, s, e, d + 1, p, false⟩ by simp [dupS, hn, hd]]
      rw [show dupB ⟨m, s, e, d, p, false⟩ f = false by simp [dupB, hd]]
      have h3 : (d + 1 != 3) = true := by simp; omega
      have hn0 : 0 ≤ f := by omega
      clear hn hd
      go_enter Try.func22, Try.ntmps22
      go_wp2
      go_ret2
      refine ⟨rfl, ?_, ?_⟩
      · apply RowAt.eq
        repeat (first | with_reducible apply RowAt.set | with_reducible apply RowAt.drewN | with_reducible apply RowAt.drew | with_reducible exact hb)
        rfl
      · repeat (first | with_reducible exact Keeps.refl _ _ | with_reducible refine Keeps.setCell ?_ _ _ (.inl rfl) | with_reducible refine Keeps.drewN ?_ _ | with_reducible refine Keeps.drew ?_)
  · rw [show dupS ⟨m, s, e, d, p, true⟩ f = ⟨m, cap (s + m), e, d + 1, p, true⟩ by simp [dupS, hn]]
    rw [show dupB ⟨m, s, e, d, p, true⟩ f = false by simp [dupB]]
    have hn0 : 0 ≤ f := by omega
    clear hn
    by_cases hq : 65535 < s + m
    · rw [cap_big hq]
      go_enter Try.func22, Try.ntmps22
      go_wp2
      refine region_draws_tail 13 (by kernel_rfl) (by kernel_rfl) ?_
      simp only [List.take_succ_cons, List.take_zero, List.drop_succ_cons, List.drop_zero]
      repeat (go_big_quiet_step (fail))
      refine wpQuiet_nil ?_
      rintro _ ⟨nq, rfl⟩
      go_wp2
      go_ret2
      refine ⟨rfl, ?_, ?_⟩
      · apply RowAt.eq
        repeat (first | with_reducible apply RowAt.set | with_reducible apply RowAt.drewN | with_reducible apply RowAt.drew | with_reducible exact hb)
        rfl
      · repeat (first | with_reducible exact Keeps.refl _ _ | with_reducible refine Keeps.setCell ?_ _ _ (.inl rfl) | with_reducible refine Keeps.drewN ?_ _ | with_reducible refine Keeps.drew ?_)
    · rw [cap_small hq]
      go_enter Try.func22, Try.ntmps22
      go_wp2
      refine region_draws_tail 13 (by kernel_rfl) (by kernel_rfl) ?_
      simp only [List.take_succ_cons, List.take_zero, List.drop_succ_cons, List.drop_zero]
      repeat (go_big_quiet_step (fail))
      refine wpQuiet_nil ?_
      rintro _ ⟨nq, rfl⟩
      go_wp2
      go_ret2
      refine ⟨rfl, ?_, ?_⟩
      · apply RowAt.eq
        repeat (first | with_reducible apply RowAt.set | with_reducible apply RowAt.drewN | with_reducible apply RowAt.drew | with_reducible exact hb)
        rfl
      · repeat (first | with_reducible exact Keeps.refl _ _ | with_reducible refine Keeps.setCell ?_ _ _ (.inl rfl) | with_reducible refine Keeps.drewN ?_ _ | with_reducible refine Keeps.drew ?_)

set_option maxHeartbeats 2000000 in
theorem rres_any (b k : Nat) (x : St) (n : Int) (w : World) (hb : RowAt w b x.cells 38) (ok : Ok k x) :
    Calls Try.prog 24 #[.pointer (some ⟨b, 0, none⟩), .int .i64 n] w (Meth b 38 (.int .i64 (resE n)) (resS x n) w) := by
  by_cases hn : bad n = true
  · have h1 : n < 1 ∨ 65535 < n := by simpa [bad] using hn
    rw [show resE n = 1 by simp [resE, hn], show resS x n = x by simp [resS, hn]]
    clear hn
    rcases h1 with h1 | h1
    · go_enter Try.func24, Try.ntmps24
      go_wp2
      go_ret
      exact ⟨rfl, hb, Keeps.refl _ _⟩
    · have h2 : 1 ≤ n := by omega
      go_enter Try.func24, Try.ntmps24
      go_wp2
      go_ret
      exact ⟨rfl, hb, Keeps.refl _ _⟩
  · rw [show resE n = 0 by simp [resE, hn], show resS x n = ⟨n, max x.s n, max x.e (cap (2 * n)), x.d, x.p, x.r⟩ by simp [resS, hn]]
    obtain ⟨n0, n1⟩ := bad_false (by simpa using hn)
    clear hn
    obtain ⟨c0, c1, c2, c3, c4, c5, hf⟩ := Win.open hb
    have hend := hb
    obtain ⟨m, s, e, d, p, r⟩ := x
    obtain ⟨b1, b2, b3, b4, b5, b6, b7, b8, b9, b10⟩ := ok
    simp only at b1 b2 b3 b4 b5 b6 b7 b8 b9 b10 c0 c1 c2 c3 c4 c5
    simp only
    by_cases hq : 65535 < 2 * n
    · rw [cap_big hq]
      by_cases h1 : s < n
      · rw [Int.max_eq_right (show s ≤ n by omega)]
        by_cases h2 : e < 65535
        · rw [Int.max_eq_right (show e ≤ 65535 by omega)]
          go_enter Try.func24, Try.ntmps24
          go_wp2
          go_ret
          refine ⟨rfl, ?_, ?_⟩
          · apply RowAt.eq
            repeat (first | with_reducible apply RowAt.set | with_reducible apply RowAt.drewN | with_reducible apply RowAt.drew | with_reducible exact hb)
            rfl
          · repeat (first | with_reducible exact Keeps.refl _ _ | with_reducible refine Keeps.setCell ?_ _ _ (.inl rfl) | with_reducible refine Keeps.drewN ?_ _ | with_reducible refine Keeps.drew ?_)
        · rw [Int.max_eq_left (show 65535 ≤ e by omega)]
          go_enter Try.func24, Try.ntmps24
          go_wp2
          go_ret
          refine ⟨rfl, ?_, ?_⟩
          · apply RowAt.eq
            repeat (first | with_reducible apply RowAt.set | with_reducible apply RowAt.drewN | with_reducible apply RowAt.drew | with_reducible exact hb)
            rfl
          · repeat (first | with_reducible exact Keeps.refl _ _ | with_reducible refine Keeps.setCell ?_ _ _ (.inl rfl) | with_reducible refine Keeps.drewN ?_ _ | with_reducible refine Keeps.drew ?_)
      · rw [Int.max_eq_left (show n ≤ s by omega)]
        by_cases h2 : e < 65535
        · rw [Int.max_eq_right (show e ≤ 65535 by omega)]
          go_enter Try.func24, Try.ntmps24
          go_wp2
          go_ret
          refine ⟨rfl, ?_, ?_⟩
          · apply RowAt.eq
            repeat (first | with_reducible apply RowAt.set | with_reducible apply RowAt.drewN | with_reducible apply RowAt.drew | with_reducible exact hb)
            rfl
          · repeat (first | with_reducible exact Keeps.refl _ _ | with_reducible refine Keeps.setCell ?_ _ _ (.inl rfl) | with_reducible refine Keeps.drewN ?_ _ | with_reducible refine Keeps.drew ?_)
        · rw [Int.max_eq_left (show 65535 ≤ e by omega)]
          go_enter Try.func24, Try.ntmps24
          go_wp2
          go_ret
          refine ⟨rfl, ?_, ?_⟩
          · apply RowAt.eq
            repeat (first | with_reducible apply RowAt.set | with_reducible apply RowAt.drewN | with_reducible apply RowAt.drew | with_reducible exact hb)
            rfl
          · repeat (first | with_reducible exact Keeps.refl _ _ | with_reducible refine Keeps.setCell ?_ _ _ (.inl rfl) | with_reducible refine Keeps.drewN ?_ _ | with_reducible refine Keeps.drew ?_)
    · rw [cap_small hq]
      by_cases h1 : s < n
      · rw [Int.max_eq_right (show s ≤ n by omega)]
        by_cases h2 : e < 2 * n
        · rw [Int.max_eq_right (show e ≤ 2 * n by omega)]
          go_enter Try.func24, Try.ntmps24
          go_wp2
          go_ret
          refine ⟨rfl, ?_, ?_⟩
          · apply RowAt.eq
            repeat (first | with_reducible apply RowAt.set | with_reducible apply RowAt.drewN | with_reducible apply RowAt.drew | with_reducible exact hb)
            rfl
          · repeat (first | with_reducible exact Keeps.refl _ _ | with_reducible refine Keeps.setCell ?_ _ _ (.inl rfl) | with_reducible refine Keeps.drewN ?_ _ | with_reducible refine Keeps.drew ?_)
        · rw [Int.max_eq_left (show 2 * n ≤ e by omega)]
          go_enter Try.func24, Try.ntmps24
          go_wp2
          go_ret
          refine ⟨rfl, ?_, ?_⟩
          · apply RowAt.eq
            repeat (first | with_reducible apply RowAt.set | with_reducible apply RowAt.drewN | with_reducible apply RowAt.drew | with_reducible exact hb)
            rfl
          · repeat (first | with_reducible exact Keeps.refl _ _ | with_reducible refine Keeps.setCell ?_ _ _ (.inl rfl) | with_reducible refine Keeps.drewN ?_ _ | with_reducible refine Keeps.drew ?_)
      · rw [Int.max_eq_left (show n ≤ s by omega)]
        by_cases h2 : e < 2 * n
        · rw [Int.max_eq_right (show e ≤ 2 * n by omega)]
          go_enter Try.func24, Try.ntmps24
          go_wp2
          go_ret
          refine ⟨rfl, ?_, ?_⟩
          · apply RowAt.eq
            repeat (first | with_reducible apply RowAt.set | with_reducible apply RowAt.drewN | with_reducible apply RowAt.drew | with_reducible exact hb)
            rfl
          · repeat (first | with_reducible exact Keeps.refl _ _ | with_reducible refine Keeps.setCell ?_ _ _ (.inl rfl) | with_reducible refine Keeps.drewN ?_ _ | with_reducible refine Keeps.drew ?_)
        · rw [Int.max_eq_left (show 2 * n ≤ e by omega)]
          go_enter Try.func24, Try.ntmps24
          go_wp2
          go_ret
          refine ⟨rfl, ?_, ?_⟩
          · apply RowAt.eq
            repeat (first | with_reducible apply RowAt.set | with_reducible apply RowAt.drewN | with_reducible apply RowAt.drew | with_reducible exact hb)
            rfl
          · repeat (first | with_reducible exact Keeps.refl _ _ | with_reducible refine Keeps.setCell ?_ _ _ (.inl rfl) | with_reducible refine Keeps.drewN ?_ _ | with_reducible refine Keeps.drew ?_)
end Go.Proofs.Ytgabinccjmdidaa
