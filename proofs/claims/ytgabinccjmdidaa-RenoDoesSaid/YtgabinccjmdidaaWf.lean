/- RenoDoubles and RenoNil: the walks of the laws. -/
import Derived.Test.YtgabinccjmdidaaWe
namespace Go.Proofs.Ytgabinccjmdidaa
open Go.RowKit

theorem Keeps.own {a b c : World} {q : Nat} (h : Keeps (fun _ => False) a b) (k : Keeps (· = q) b c) (hq : a.heap.size ≤ q) : Keeps (fun _ => False) a c :=
  h.trans k fun i hi e => by omega

set_option maxHeartbeats 400000 in
theorem dup_nil (n : Int) (w : World) : Calls Try.prog 16 #[.pointer none, .int .i64 n] w fun e w' => e = .returned (.tuple #[.bool false, .int .i64 3]) ∧ w = w' := by
  go_enter Try.func16, Try.ntmps16
  go_wp2
  go_ret2
  exact ⟨rfl, rfl⟩
set_option maxHeartbeats 400000 in
theorem ack_nil (n : Int) (w : World) : Calls Try.prog 13 #[.pointer none, .int .i64 n] w fun e w' => e = .returned (.int .i64 3) ∧ w = w' := by
  go_enter Try.func13, Try.ntmps13
  go_wp2
  go_ret
  exact ⟨rfl, rfl⟩
set_option maxHeartbeats 400000 in
theorem lost_nil (n : Int) (w : World) : Calls Try.prog 9 #[.pointer none, .int .i64 n] w fun e w' => e = .returned (.int .i64 3) ∧ w = w' := by
  go_enter Try.func9, Try.ntmps9
  go_wp2
  go_ret
  exact ⟨rfl, rfl⟩
set_option maxHeartbeats 400000 in
theorem res_nil (n : Int) (w : World) : Calls Try.prog 17 #[.pointer none, .int .i64 n] w fun e w' => e = .returned (.int .i64 3) ∧ w = w' := by
  go_enter Try.func17, Try.ntmps17
  go_wp2
  go_ret
  exact ⟨rfl, rfl⟩
set_option maxHeartbeats 400000 in
theorem size_nil (w : World) : Calls Try.prog 11 #[.pointer none] w fun e w' => e = .returned (.int .i64 0) ∧ w = w' := by
  go_enter Try.func11, Try.ntmps11
  go_wp2
  go_ret
  exact ⟨rfl, rfl⟩
set_option maxHeartbeats 400000 in
theorem edge_nil (w : World) : Calls Try.prog 12 #[.pointer none] w fun e w' => e = .returned (.int .i64 0) ∧ w = w' := by
  go_enter Try.func12, Try.ntmps12
  go_wp2
  go_ret
  exact ⟨rfl, rfl⟩

set_option maxHeartbeats 1000000 in
theorem nil_law (n : Int) (w : World) : Calls Try.prog 6 #[.int .i64 n] w fun e w' => e = .returned (.bool true) ∧ Keeps (fun _ => False) w w' := by
  go_enter Try.func6, Try.ntmps6
  go_wp2_with (first
    | (go_at_call 16; refine (dup_nil _ _).mono ?_; rintro e w' ⟨rfl, rfl⟩)
    | (go_at_call 10; refine (awake_any _).mono ?_; rintro e w' ⟨rfl, hk⟩)
    | (go_at_call 13; refine (ack_nil _ _).mono ?_; rintro e w' ⟨rfl, rfl⟩)
    | (go_at_call 9; refine (lost_nil _ _).mono ?_; rintro e w' ⟨rfl, rfl⟩)
    | (go_at_call 17; refine (res_nil _ _).mono ?_; rintro e w' ⟨rfl, rfl⟩)
    | (go_at_call 11; refine (size_nil _).mono ?_; rintro e w' ⟨rfl, rfl⟩)
    | (go_at_call 12; refine (edge_nil _).mono ?_; rintro e w' ⟨rfl, rfl⟩))
  go_ret
  exact ⟨rfl, hk⟩

/-- A window as RenoDoubles meets it. -/
def DInv (mss edge : Int) (x : St) : Prop := x.m = mss ∧ x.e = edge ∧ x.d = 0 ∧ x.r = false ∧ mss ≤ x.s ∧ x.s ≤ 65535 ∧ 0 ≤ x.p ∧ x.p < x.s
/-- In the midst of a round: n are left of 'was'. -/
def RInv (mss edge was p0 n : Int) (x : St) : Prop :=
  x.m = mss ∧ x.e = edge ∧ x.d = 0 ∧ x.r = false ∧ was ≤ x.s ∧ x.s ≤ 65535 ∧ 0 ≤ x.p ∧ x.p < x.s ∧
  (2 * was ≤ edge → x.s = was + (was - max n 0)) ∧
  (edge ≤ was → (x.s = was ∧ x.p = p0 + (was - max n 0)) ∨ (x.s = min (was + mss) 65535 ∧ x.p = p0 + (was - max n 0) - was ∧ was ≤ p0 + (was - max n 0)))

theorem rinv_start {mss edge : Int} {x : St} (h1 : 1 ≤ mss) (h : DInv mss edge x) : RInv mss edge x.s x.p x.s x := by
  obtain ⟨a, b, c, d, e, f, g, i⟩ := h
  refine ⟨a, b, c, d, Int.le_refl _, f, g, i, fun _ => by omega, fun _ => .inl ⟨rfl, by omega⟩⟩
theorem rinv_ok {mss edge was p0 n : Int} {x : St} (h1 : 1 ≤ mss) (h2 : mss ≤ 1000) (h3 : mss ≤ edge) (h4 : edge ≤ 65535) (h5 : mss ≤ was) (h : RInv mss edge was p0 n x) : Ok 1 x := by
  obtain ⟨a, b, c, d, e, f, g, i, j, k⟩ := h
  constructor <;> omega
theorem rinv_step {mss edge was p0 n : Int} {x : St} (h1 : 1 ≤ mss) (h2 : mss ≤ 1000) (h4 : edge ≤ 65535) (h5 : mss ≤ was) (hp : 0 ≤ p0) (hp' : p0 < was) (hn : 0 < n) (hn' : n ≤ was) (h : RInv mss edge was p0 n x) :
    RInv mss edge was p0 (n - mss) (ackS x (min n mss)) ∧ ackE (min n mss) = 0 := by
  obtain ⟨m, s, e, d, p, r⟩ := x
  obtain ⟨a, b, c, q, g, i, j, k, l, o⟩ := h
  simp only at a b c q g i j k l o
  subst a b c q
  have hb : badN (min n m) = false := by simp [badN]; omega
  refine ⟨?_, by simp [ackE, hb]⟩
  unfold ackS
  rw [hb]
  simp only [Bool.false_eq_true, if_false]
  by_cases hse : s < e
  · rw [if_pos hse]
    refine ⟨rfl, rfl, rfl, rfl, ?_⟩
    simp only [cap]
    refine ⟨by omega, by omega, by omega, by omega, fun hh => by have := l hh; omega, fun hh => by omega⟩
  · rw [if_neg hse]
    by_cases hq : s ≤ p + min n m
    · rw [if_pos hq]
      refine ⟨rfl, rfl, rfl, rfl, ?_⟩
      simp only [cap]
      refine ⟨by omega, by omega, by omega, by omega, fun hh => by have := l hh; omega, fun hh => .inr ?_⟩
      rcases o hh with ⟨o1, o2⟩ | ⟨o1, o2, o3⟩
      · exact ⟨by omega, by omega, by omega⟩
      · omega
    · rw [if_neg hq]
      refine ⟨rfl, rfl, rfl, rfl, ?_⟩
      simp only
      refine ⟨by omega, by omega, by omega, by omega, fun hh => by have := l hh; omega, fun hh => ?_⟩
      rcases o hh with ⟨o1, o2⟩ | ⟨o1, o2, o3⟩
      · exact .inl ⟨by omega, by omega⟩
      · exact .inr ⟨by omega, by omega, by omega⟩
theorem rinv_end {mss edge was p0 n : Int} {x : St} (hp : 0 ≤ p0) (h5 : mss ≤ was) (hn : n ≤ 0) (h : RInv mss edge was p0 n x) :
    DInv mss edge x ∧ was ≤ x.s ∧ (2 * was ≤ edge → x.s = 2 * was) ∧ (edge ≤ was → x.s = min (was + mss) 65535) := by
  obtain ⟨a, b, c, d, e, f, g, i, j, k⟩ := h
  refine ⟨⟨a, b, c, d, by omega, f, g, i⟩, e, fun hh => by have := j hh; omega, fun hh => ?_⟩
  rcases k hh with ⟨k1, k2⟩ | ⟨k1, k2, k3⟩ <;> omega

set_option maxRecDepth 100000 in
set_option maxHeartbeats 4000000 in
theorem doubles_walk (mss f : Int) (w : World) : Calls Try.prog 3 #[.int .i64 mss, .int .i64 f] w fun e w' => e = .returned (.bool true) ∧ Keeps (fun _ => False) w w' := by
  cases hm : bad mss with
  | true =>
    go_enter Try.func3, Try.ntmps3
    go_wp2_with (first | (go_at_call 8; refine (new_bad _ _ hm).mono ?_; rintro e w' ⟨rfl, rfl⟩) | (go_at_call 10; refine (awake_any _).mono ?_; rintro e w' ⟨rfl, hk⟩))
    go_ret
    exact ⟨rfl, hk⟩
  | false =>
  obtain ⟨m1, m2⟩ := bad_false hm
  by_cases h : 1000 < mss ∨ f < 0 ∨ 60000 < f
  · have h' : (mss ≤ 1000 → f < 0 ∨ 60000 < f) ∧ (mss ≤ 1000 → 0 ≤ f → 60000 < f) := by omega
    go_enter Try.func3, Try.ntmps3
    go_wp2_with fail
    refine (new_good _ _ hm).mono ?_
    rintro e w1 ⟨b, hb, rfl, r1, k1⟩
    by_cases c1 : 1000 < mss
    · go_wp2_with (go_at_call 10; refine (awake_any _).mono ?_; rintro e w' ⟨rfl, hk⟩)
      go_ret
      exact ⟨rfl, k1.trans hk fun _ _ h => h⟩
    · by_cases c2 : f < 0
      · go_wp2_with (go_at_call 10; refine (awake_any _).mono ?_; rintro e w' ⟨rfl, hk⟩)
        go_ret
        exact ⟨rfl, k1.trans hk fun _ _ h => h⟩
      · have c3 : 60000 < f := by omega
        clear h h'
        go_wp2_with (go_at_call 10; refine (awake_any _).mono ?_; rintro e w' ⟨rfl, hk⟩)
        go_ret
        exact ⟨rfl, k1.trans hk fun _ _ h => h⟩
  · have m3 : mss ≤ 1000 := by omega
    have f1 : 0 ≤ f := by omega
    have f2 : f ≤ 60000 := by omega
    clear h
    have hh := half_bd f (new_ok hm)
    have hne : negE f = 0 := by unfold negE; rw [if_neg (by omega)]
    have hls : lostS (newS mss) f = ⟨mss, mss, half (newS mss) f, 0, 0, false⟩ := by unfold lostS; rw [if_neg (by omega)]; rfl
    have HL := Lib.hid hls; clear hls
    have HN := Lib.hid hne; clear hne
    go_enter Try.func3, Try.ntmps3
    go_wp2_with fail
    refine (new_good _ _ hm).mono ?_
    rintro e w1 ⟨b, hb, rfl, r1, k1⟩
    go_wp2_with fail
    refine (lost_any b 0 (newS mss) f _ r1 (new_ok hm) (by omega)).mono ?_
    rintro e w2 ⟨rfl, r2, k2⟩
    rw [HN.out]
    rw [HL.out] at r2
    generalize hE : half (newS mss) f = edge at *
    clear hE HL HN
    simp only [newS] at hh
    have k3 := k1.own k2 hb
    clear k1 k2 r1
    go_wp2
    go_loopw [7] (fun i wr => ∃ (k : Nat) (x : St), k ≤ 40 ∧ i = .int .i64 k ∧ RowAt wr b x.cells 46 ∧ DInv mss edge x ∧ Keeps (fun _ => False) w wr) (fun i _ => 40 - (intOf i).toNat)
    case atStart => exact ⟨0, _, by omega, rfl, r2, ⟨rfl, rfl, rfl, rfl, by simp only; omega, by simp only; omega, by simp only; omega, by simp only; omega⟩, k3⟩
    case round =>
      obtain ⟨k, x, hk, rfl, hr, hd, hkw⟩ := hrel
      obtain ⟨s, p, rfl, s1, s2, p1, p2⟩ : ∃ s p, x = ⟨mss, s, edge, 0, p, false⟩ ∧ mss ≤ s ∧ s ≤ 65535 ∧ 0 ≤ p ∧ p < s := by
        obtain ⟨m, s, e, d, p, r⟩ := x
        obtain ⟨rfl, rfl, rfl, rfl, q1, q2, q3, q4⟩ := hd
        exact ⟨s, p, rfl, q1, q2, q3, q4⟩
      have hst := rinv_start m1 hd
      simp only at hst
      clear hd hm
      by_cases hlt : k < 40
      · go_wp2_with (first | (go_at_call 11; refine (size_any b _ _ hr).mono ?_; rintro e w' ⟨rfl, rfl⟩) | (go_at_call 12; refine (edge_any b _ _ hr).mono ?_; rintro e w' ⟨rfl, rfl⟩))
        obtain ⟨wo, rfl⟩ : ∃ wo : World, wo = wr := ⟨_, rfl⟩
        go_loopw [10] (fun n wr => ∃ (j : Int) (y : St), n = .int .i64 j ∧ j ≤ s ∧ -1000 ≤ j ∧ RowAt wr b y.cells 46 ∧ RInv mss edge s p j y ∧ Keeps (fun _ => False) w wr) (fun n _ => (intOf n + 1000).toNat)
        case atStart => exact ⟨s, _, rfl, by omega, by omega, hr, hst, hkw⟩
        case round =>
          obtain ⟨j, y, rfl, j1, j2, hy, hi, hky⟩ := hrel
          by_cases hj : 0 < j
          · have hok := rinv_ok m1 m3 hh.1 hh.2 s1 hi
            obtain ⟨hstep, hzero⟩ := rinv_step m1 m3 hh.2 s1 p1 p2 hj j1 hi
            by_cases hmin : mss < j
            · rw [Int.min_eq_right (show mss ≤ j by omega)] at hstep hzero
              have HZ := Lib.hid hzero; clear hzero
              go_wp2_with (go_at_call 13; refine (ack_any b 1 y _ _ hy hok (by decide)).mono ?_; rintro e w' ⟨rfl, hr', hk'⟩; rw [HZ.out])
              go_roundw
              case rel => exact ⟨j - mss, _, rfl, by omega, by omega, hr', hstep, hky.own hk' hb⟩
              case measure => simp [intOf]; omega
            · rw [Int.min_eq_left (show j ≤ mss by omega)] at hstep hzero
              have HZ := Lib.hid hzero; clear hzero
              go_wp2_with (go_at_call 13; refine (ack_any b 1 y _ _ hy hok (by decide)).mono ?_; rintro e w' ⟨rfl, hr', hk'⟩; rw [HZ.out])
              go_roundw
              case rel => exact ⟨j - mss, _, rfl, by omega, by omega, hr', hstep, hky.own hk' hb⟩
              case measure => simp [intOf]; omega
          · obtain ⟨hd, z1, z2, z3⟩ := rinv_end p1 s1 (by omega) hi
            obtain ⟨s', p', rfl, s1', s2', p1', p2'⟩ : ∃ s p, y = ⟨mss, s, edge, 0, p, false⟩ ∧ mss ≤ s ∧ s ≤ 65535 ∧ 0 ≤ p ∧ p < s := by
              obtain ⟨m, s, e, d, p, r⟩ := y
              obtain ⟨rfl, rfl, rfl, rfl, q1, q2, q3, q4⟩ := hd
              exact ⟨s, p, rfl, q1, q2, q3, q4⟩
            simp only at z1 z2 z3
            clear hi
            by_cases c1 : 2 * s ≤ edge
            · have t1 : (s' != 2 * s) = false := by rw [bne_eq_false_iff_eq]; exact z2 c1
              clear z2 z3
              by_cases c4 : 60000 < s'
              · go_wp2_with (first | (go_at_call 11; refine (size_any b _ _ hy).mono ?_; rintro e w' ⟨rfl, rfl⟩) | (go_at_call 12; refine (edge_any b _ _ hy).mono ?_; rintro e w' ⟨rfl, rfl⟩))
                all_goals
                  go_roundw
                  case rel => exact ⟨k + 1, _, by omega, by go_num, hy, hd, hky⟩
                  case measure => simp [intOf]; omega
              · go_wp2_with (first | (go_at_call 11; refine (size_any b _ _ hy).mono ?_; rintro e w' ⟨rfl, rfl⟩) | (go_at_call 12; refine (edge_any b _ _ hy).mono ?_; rintro e w' ⟨rfl, rfl⟩))
                all_goals
                  go_roundw
                  case rel => exact ⟨k + 1, _, by omega, by go_num, hy, hd, hky⟩
                  case measure => simp [intOf]; omega
            · have c1' : edge < 2 * s := by omega
              by_cases c2 : edge ≤ s
              · have z4 := z3 c2
                by_cases c3 : 65535 < s + mss
                · have t1 : (s' != 65535) = false := by rw [bne_eq_false_iff_eq]; omega
                  clear z2 z3 z4 c1
                  by_cases c4 : 60000 < s'
                  · go_wp2_with (first | (go_at_call 11; refine (size_any b _ _ hy).mono ?_; rintro e w' ⟨rfl, rfl⟩) | (go_at_call 12; refine (edge_any b _ _ hy).mono ?_; rintro e w' ⟨rfl, rfl⟩))
                    all_goals
                      go_roundw
                      case rel => exact ⟨k + 1, _, by omega, by go_num, hy, hd, hky⟩
                      case measure => simp [intOf]; omega
                  · go_wp2_with (first | (go_at_call 11; refine (size_any b _ _ hy).mono ?_; rintro e w' ⟨rfl, rfl⟩) | (go_at_call 12; refine (edge_any b _ _ hy).mono ?_; rintro e w' ⟨rfl, rfl⟩))
                    all_goals
                      go_roundw
                      case rel => exact ⟨k + 1, _, by omega, by go_num, hy, hd, hky⟩
                      case measure => simp [intOf]; omega
                · have t1 : (s' != s + mss) = false := by rw [bne_eq_false_iff_eq]; omega
                  clear z2 z3 z4 c1
                  by_cases c4 : 60000 < s'
                  · go_wp2_with (first | (go_at_call 11; refine (size_any b _ _ hy).mono ?_; rintro e w' ⟨rfl, rfl⟩) | (go_at_call 12; refine (edge_any b _ _ hy).mono ?_; rintro e w' ⟨rfl, rfl⟩))
                    all_goals
                      go_roundw
                      case rel => exact ⟨k + 1, _, by omega, by go_num, hy, hd, hky⟩
                      case measure => simp [intOf]; omega
                  · go_wp2_with (first | (go_at_call 11; refine (size_any b _ _ hy).mono ?_; rintro e w' ⟨rfl, rfl⟩) | (go_at_call 12; refine (edge_any b _ _ hy).mono ?_; rintro e w' ⟨rfl, rfl⟩))
                    all_goals
                      go_roundw
                      case rel => exact ⟨k + 1, _, by omega, by go_num, hy, hd, hky⟩
                      case measure => simp [intOf]; omega
              · have c2' : s < edge := by omega
                clear z2 z3 c1 c2
                by_cases c4 : 60000 < s'
                · go_wp2_with (first | (go_at_call 11; refine (size_any b _ _ hy).mono ?_; rintro e w' ⟨rfl, rfl⟩) | (go_at_call 12; refine (edge_any b _ _ hy).mono ?_; rintro e w' ⟨rfl, rfl⟩))
                  all_goals
                    go_roundw
                    case rel => exact ⟨k + 1, _, by omega, by go_num, hy, hd, hky⟩
                    case measure => simp [intOf]; omega
                · go_wp2_with (first | (go_at_call 11; refine (size_any b _ _ hy).mono ?_; rintro e w' ⟨rfl, rfl⟩) | (go_at_call 12; refine (edge_any b _ _ hy).mono ?_; rintro e w' ⟨rfl, rfl⟩))
                  all_goals
                    go_roundw
                    case rel => exact ⟨k + 1, _, by omega, by go_num, hy, hd, hky⟩
                    case measure => simp [intOf]; omega
      · go_wp2_with (go_at_call 10; refine (awake_any _).mono ?_; rintro e w' ⟨rfl, hk⟩)
        go_ret
        exact ⟨rfl, hkw.trans hk fun _ _ h => h⟩

end Go.Proofs.Ytgabinccjmdidaa
