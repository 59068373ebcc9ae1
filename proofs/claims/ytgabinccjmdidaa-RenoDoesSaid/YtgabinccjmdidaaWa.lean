/- Walks over reno's window: each method's call does what the plain function says. -/
import Derived.Test.YtgabinccjmdidaaSpec
import Derived.Test.YtgabinccjmdidaaTail
namespace Go.Proofs.Ytgabinccjmdidaa
open Go.RowKit

theorem ret_int {k : IntKind} {a b : Int} (h : a = b) : Ending.returned (.int k a) = .returned (.int k b) := by rw [h]
theorem ret_bool {a b : Bool} (h : a = b) : Ending.returned (.bool a) = .returned (.bool b) := by rw [h]

set_option maxHeartbeats 400000 in
theorem cap16_any (n : Int) (w : World) :
    Calls Try.prog 19 #[.int .i64 n] w fun e w' => e = .returned (.int .i64 (cap n)) ∧ w = w' := by
  go_enter Try.func19, Try.ntmps19
  go_wp2
  all_goals
    go_ret
    exact ⟨ret_int (by unfold cap; omega), rfl⟩

set_option maxHeartbeats 400000 in
theorem may_any (n : Int) (w : World) :
    Calls Try.prog 18 #[.int .i64 n] w fun e w' => e = .returned (.bool (!(bad n))) ∧ w = w' := by
  go_enter Try.func18, Try.ntmps18
  go_wp2
  all_goals
    go_ret
    exact ⟨ret_bool (by rw [Bool.eq_iff_iff]; simp [bad]; omega), rfl⟩

set_option maxHeartbeats 400000 in
theorem new_bad (m : Int) (w : World) (h : bad m = true) :
    Calls Try.prog 8 #[.int .i64 m] w fun e w' => e = .returned (.tuple #[.pointer none, .int .i64 1]) ∧ w = w' := by
  have H := Lib.hid h; clear h
  go_enter Try.func8, Try.ntmps8
  go_wp2_with (go_at_call 18; refine (may_any _ _).mono ?_; rintro e w' ⟨rfl, rfl⟩; rw [H.out])
  all_goals
    go_ret2
    exact ⟨rfl, rfl⟩

set_option maxHeartbeats 400000 in
theorem new_good (m : Int) (w : World) (h : bad m = false) :
    Calls Try.prog 8 #[.int .i64 m] w (Makes 46 (newS m) w) := by
  have hb := bad_false h
  have H := Lib.hid h; clear h
  go_enter Try.func8, Try.ntmps8
  go_wp2_with (first | (go_at_call 18; refine (may_any _ _).mono ?_; rintro e w' ⟨rfl, rfl⟩; rw [H.out]) | (go_at_call 19; refine (cap16_any _ _).mono ?_; rintro e w' ⟨rfl, rfl⟩))
  go_ret2
  exact ⟨w.heap.size, Nat.le_refl _, rfl, RowAt.new _ _ _, (Keeps.refl _ _).alloc _⟩

/-- What is known of a window in memory, cell by cell. -/
theorem Win.open {w : World} {b T : Nat} {x : St} (h : RowAt w b x.cells T) :
    w.cell? ⟨b, 0, none⟩ = some (.int .i64 x.m) ∧ w.cell? ⟨b, 1, none⟩ = some (.int .i64 x.s) ∧ w.cell? ⟨b, 2, none⟩ = some (.int .i64 x.e) ∧
    w.cell? ⟨b, 3, none⟩ = some (.int .i64 x.d) ∧ w.cell? ⟨b, 4, none⟩ = some (.int .i64 x.p) ∧ w.cell? ⟨b, 5, none⟩ = some (.bool x.r) ∧ ∀ j, w.frozen? ⟨b, j, none⟩ = false :=
  ⟨h.cell 0, h.cell 1, h.cell 2, h.cell 3, h.cell 4, h.cell 5, h.frozen⟩

set_option maxHeartbeats 400000 in
theorem size_any (b : Nat) (x : St) (w : World) (hb : RowAt w b x.cells 46) :
    Calls Try.prog 11 #[.pointer (some ⟨b, 0, none⟩)] w fun e w' => e = .returned (.int .i64 x.s) ∧ w = w' := by
  obtain ⟨-, c1, -⟩ := Win.open hb
  go_enter Try.func11, Try.ntmps11
  go_wp2
  go_ret
  exact ⟨rfl, rfl⟩

set_option maxHeartbeats 400000 in
theorem edge_any (b : Nat) (x : St) (w : World) (hb : RowAt w b x.cells 46) :
    Calls Try.prog 12 #[.pointer (some ⟨b, 0, none⟩)] w fun e w' => e = .returned (.int .i64 x.e) ∧ w = w' := by
  obtain ⟨-, -, c2, -⟩ := Win.open hb
  go_enter Try.func12, Try.ntmps12
  go_wp2
  go_ret
  exact ⟨rfl, rfl⟩

set_option maxHeartbeats 1000000 in
theorem ack_bad (b : Nat) (x : St) (n : Int) (w : World) (hb : RowAt w b x.cells 46) (hn : badN n = true) :
    Calls Try.prog 13 #[.pointer (some ⟨b, 0, none⟩), .int .i64 n] w (Meth b 46 (.int .i64 (ackE n)) (ackS x n) w) := by
  have h1 : n < 1 ∨ 1000000 < n := by simpa [badN] using hn
  have H := Lib.hid hn; clear hn
  rcases h1 with h1 | h1
  · go_enter Try.func13, Try.ntmps13
    go_wp2
    go_ret
    exact ⟨by simp [ackE, H.out], hb.eq (by simp [ackS, H.out]), Keeps.refl _ _⟩
  · have h2 : 1 ≤ n := by omega
    go_enter Try.func13, Try.ntmps13
    go_wp2
    go_ret
    exact ⟨by simp [ackE, H.out], hb.eq (by simp [ackS, H.out]), Keeps.refl _ _⟩

set_option maxHeartbeats 2000000 in
theorem ack_good (b k : Nat) (x : St) (n : Int) (w : World) (hb : RowAt w b x.cells 46) (ok : Ok k x) (hk : k ≤ 1000000) (hn : badN n = false) :
    Calls Try.prog 13 #[.pointer (some ⟨b, 0, none⟩), .int .i64 n] w (Meth b 46 (.int .i64 (ackE n)) (ackS x n) w) := by
  obtain ⟨h1, h2⟩ := badN_false hn
  have H := Lib.hid hn; clear hn
  obtain ⟨c0, c1, c2, c3, c4, c5, hf⟩ := Win.open hb
  have hend := hb
  obtain ⟨m, s, e, d, p, r⟩ := x
  obtain ⟨b1, b2, b3, b4, b5, b6, b7, b8, b9, b10⟩ := ok
  simp only at b1 b2 b3 b4 b5 b6 b7 b8 b9 b10 c0 c1 c2 c3 c4 c5
  rw [show ackE n = 0 by simp [ackE, H.out]]
  cases r
  · by_cases hse : s < e
    · by_cases hnm : m < n
      · rw [show ackS ⟨m, s, e, d, p, false⟩ n = ⟨m, cap (s + m), e, 0, p, false⟩ by simp [ackS, H.out, hse]; congr 1; omega]
        go_enter Try.func13, Try.ntmps13
        go_wp2
        go_quiet (fail)
        go_wp2
        refine region_draws_tail 15 (by kernel_rfl) (by kernel_rfl) ?_
        simp only [List.take_succ_cons, List.take_zero, List.drop_succ_cons, List.drop_zero]
        repeat (go_big_quiet_step (first | (with_reducible exact quiet_same2 (cap16_any _ _)) | (with_reducible exact quiet_same (cap16_any _ _))))
        refine wpQuiet_nil ?_
        rintro _ ⟨nq, rfl⟩
        go_wp2
        go_ret
        refine ⟨rfl, ?rows, ?keep⟩
        case keep => repeat (first | with_reducible exact Keeps.refl _ _ | with_reducible refine Keeps.setCell ?_ _ _ (.inl rfl) | with_reducible refine Keeps.drewN ?_ _)
        case rows =>
          apply RowAt.eq
          repeat (first | with_reducible apply RowAt.set | with_reducible apply RowAt.drewN | with_reducible exact hb)
          rfl
      · rw [show ackS ⟨m, s, e, d, p, false⟩ n = ⟨m, cap (s + n), e, 0, p, false⟩ by simp [ackS, H.out, hse]; congr 1; omega]
        go_enter Try.func13, Try.ntmps13
        go_wp2
        go_quiet (fail)
        go_wp2
        refine region_draws_tail 15 (by kernel_rfl) (by kernel_rfl) ?_
        simp only [List.take_succ_cons, List.take_zero, List.drop_succ_cons, List.drop_zero]
        repeat (go_big_quiet_step (first | (with_reducible exact quiet_same2 (cap16_any _ _)) | (with_reducible exact quiet_same (cap16_any _ _))))
        refine wpQuiet_nil ?_
        rintro _ ⟨nq, rfl⟩
        go_wp2
        go_ret
        refine ⟨rfl, ?rows, ?keep⟩
        case keep => repeat (first | with_reducible exact Keeps.refl _ _ | with_reducible refine Keeps.setCell ?_ _ _ (.inl rfl) | with_reducible refine Keeps.drewN ?_ _)
        case rows =>
          apply RowAt.eq
          repeat (first | with_reducible apply RowAt.set | with_reducible apply RowAt.drewN | with_reducible exact hb)
          rfl
    · by_cases hps : s ≤ p + n
      · rw [show ackS ⟨m, s, e, d, p, false⟩ n = ⟨m, cap (s + m), e, 0, p + n - s, false⟩ by simp [ackS, H.out, hse, hps]]
        go_enter Try.func13, Try.ntmps13
        go_wp2
        go_quiet (fail)
        go_wp2
        go_quiet (fail)
        go_wp2
        refine region_draws_tail 11 (by kernel_rfl) (by kernel_rfl) ?_
        simp only [List.take_succ_cons, List.take_zero, List.drop_succ_cons, List.drop_zero]
        repeat (go_big_quiet_step (fail))
        refine wpQuiet_nil ?_
        rintro _ ⟨nq, rfl⟩
        go_wp2
        refine region_draws_tail 13 (by kernel_rfl) (by kernel_rfl) ?_
        simp only [List.take_succ_cons, List.take_zero, List.drop_succ_cons, List.drop_zero]
        repeat (go_big_quiet_step (first | (with_reducible exact quiet_same2 (cap16_any _ _)) | (with_reducible exact quiet_same (cap16_any _ _))))
        refine wpQuiet_nil ?_
        rintro _ ⟨nq, rfl⟩
        go_wp2
        go_ret
        refine ⟨rfl, ?rows, ?keep⟩
        case keep => repeat (first | with_reducible exact Keeps.refl _ _ | with_reducible refine Keeps.setCell ?_ _ _ (.inl rfl) | with_reducible refine Keeps.drewN ?_ _)
        case rows =>
          apply RowAt.eq
          repeat (first | with_reducible apply RowAt.set | with_reducible apply RowAt.drewN | with_reducible exact hb)
          rfl
      · rw [show ackS ⟨m, s, e, d, p, false⟩ n = ⟨m, s, e, 0, p + n, false⟩ by simp [ackS, H.out, hse, hps]]
        go_enter Try.func13, Try.ntmps13
        go_wp2
        go_quiet (fail)
        go_wp2
        go_quiet (fail)
        go_wp2
        go_ret
        refine ⟨rfl, ?rows, ?keep⟩
        case keep => repeat (first | with_reducible exact Keeps.refl _ _ | with_reducible refine Keeps.setCell ?_ _ _ (.inl rfl) | with_reducible refine Keeps.drewN ?_ _)
        case rows =>
          apply RowAt.eq
          repeat (first | with_reducible apply RowAt.set | with_reducible apply RowAt.drewN | with_reducible exact hb)
          rfl
  · rw [show ackS ⟨m, s, e, d, p, true⟩ n = ⟨m, e, e, 0, p, false⟩ by simp [ackS, H.out]]
    go_enter Try.func13, Try.ntmps13
    go_wp2
    go_ret
    refine ⟨rfl, ?rows, ?keep⟩
    case keep => repeat (first | with_reducible exact Keeps.refl _ _ | with_reducible refine Keeps.setCell ?_ _ _ (.inl rfl) | with_reducible refine Keeps.drewN ?_ _)
    case rows =>
      apply RowAt.eq
      repeat (first | with_reducible apply RowAt.set | with_reducible apply RowAt.drewN | with_reducible exact hb)
      rfl

end Go.Proofs.Ytgabinccjmdidaa
