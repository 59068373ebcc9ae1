/- RenoBounds: the walk of the law. -/
import Derived.Test.YtgabinccjmdidaaWf
namespace Go.Proofs.Ytgabinccjmdidaa
open Go.RowKit

theorem Keeps.cell {S : Nat → Prop} {w w' : World} (h : Keeps S w w') {a : Addr} {v : Value} (hc : w.cell? a = some v) (hS : ¬ S a.block) : w'.cell? a = some v :=
  (World.cell?_of_block (w := w) (h.block a.block (World.block_lt_of_cell? w a hc) hS)).trans hc

/-- A slice of pairs of whole numbers, as the walks are told of it. -/
def PairsIn (w : World) (a : Option Addr) (len : Nat) (z : Nat → Int × Int) : Prop :=
  len ≤ 9223372036854775807 ∧ (len = 0 ∨ ∃ b off, a = some ⟨b, off, none⟩ ∧ b < w.heap.size ∧ ∀ i, i < len →
    w.cell? ⟨b, off + i * 2, none⟩ = some (.int .i64 (z i).1) ∧ w.cell? ⟨b, off + i * 2 + 1, none⟩ = some (.int .i64 (z i).2) ∧
    (z i).1 ≤ 9223372036854775807 ∧ (z i).2 ≤ 9223372036854775807)


theorem RowAt.two {w : World} {b : Nat} {u v : Value} {T : TypeId} (h : RowAt w b #[u, v] T) : w.cell? ⟨b, 0, none⟩ = some u ∧ w.cell? ⟨b, 1, none⟩ = some v := ⟨h.cell 0, h.cell 1⟩

theorem ack_form (x : St) (n : Int) (h : badN n = false) : ∃ s e p, ackS x n = ⟨x.m, s, e, 0, p, false⟩ := by
  unfold ackS
  rw [h]
  simp only [Bool.false_eq_true, if_false]
  split
  · exact ⟨_, _, _, rfl⟩
  · split
    · exact ⟨_, _, _, rfl⟩
    · split <;> exact ⟨_, _, _, rfl⟩
theorem dup_form (x : St) (f : Int) (h : 0 ≤ f) : ∃ s e p, dupS x f = ⟨x.m, s, e, x.d + 1, p, x.r || dupB x f⟩ := by
  obtain ⟨m, s, e, d, p, r⟩ := x
  have hf : decide (0 ≤ f) = true := by simpa using h
  unfold dupS dupB
  rw [if_neg (by omega), hf]
  cases r
  · by_cases hd : d = 2
    · subst hd; exact ⟨_, _, _, rfl⟩
    · simp only [Bool.false_eq_true, if_false, if_neg hd, Bool.not_false, Bool.true_and, Bool.false_or, decide_eq_false hd]
      exact ⟨_, _, _, rfl⟩
  · exact ⟨_, _, _, rfl⟩

set_option maxRecDepth 100000 in
set_option maxHeartbeats 4000000 in
theorem bounds_walk (mss : Int) (a : Option Addr) (len cp : Nat) (z : Nat → Int × Int) (w : World) (hz : PairsIn w a len z) :
    Calls Try.prog 5 #[.int .i64 mss, .slice a len cp] w fun e w' => e = .returned (.bool true) ∧ Keeps (fun _ => False) w w' := by
  obtain ⟨hl0, hz⟩ := hz
  by_cases hl : 300 < len
  · have hl' : (300 : Int) < (len : Int) := by omega
    cases hm : bad mss with
    | true =>
      go_enter Try.func5, Try.ntmps5
      go_wp2_with (first | (go_at_call 8; refine (new_bad _ _ hm).mono ?_; rintro e w' ⟨rfl, rfl⟩) | (go_at_call 10; refine (awake_any _).mono ?_; rintro e w' ⟨rfl, hk⟩))
      go_ret
      exact ⟨rfl, hk⟩
    | false =>
      go_enter Try.func5, Try.ntmps5
      go_wp2_with fail
      refine (new_good _ _ hm).mono ?_
      rintro e w1 ⟨b, hb, rfl, r1, k1⟩
      go_wp2_with (go_at_call 10; refine (awake_any _).mono ?_; rintro e w' ⟨rfl, hk⟩)
      go_ret
      exact ⟨rfl, k1.trans hk fun _ _ h => h⟩
  · have hl' : (len : Int) ≤ 300 := by omega
    cases hm : bad mss with
    | true =>
      go_enter Try.func5, Try.ntmps5
      go_wp2_with (first | (go_at_call 8; refine (new_bad _ _ hm).mono ?_; rintro e w' ⟨rfl, rfl⟩) | (go_at_call 10; refine (awake_any _).mono ?_; rintro e w' ⟨rfl, hk⟩))
      go_ret
      exact ⟨rfl, hk⟩
    | false =>
      have ok0 := new_ok hm
      go_enter Try.func5, Try.ntmps5
      go_wp2_with fail
      refine (new_good _ _ hm).mono ?_
      rintro e w1 ⟨b, hb, rfl, r1, k1⟩
      clear hm
      go_wp2
      go_loopw [0, 7, 8, 9] (fun u0 u7 u8 u9 wr => ∃ (k : Nat) (x : St), k ≤ len ∧ u9 = .int .i64 k ∧ u0 = .int .i64 x.m ∧ u7 = .int .i64 x.d ∧ u8 = .bool x.r ∧ RowAt wr b x.cells 46 ∧ Ok k x ∧ Keeps (fun _ => False) w wr) (fun _ _ _ u9 _ => len - (intOf u9).toNat)
      case atStart => exact ⟨0, _, by omega, rfl, rfl, rfl, rfl, r1, ok0, k1⟩
      case round =>
        obtain ⟨k, x, hk, rfl, rfl, rfl, rfl, hr, ok, hkw⟩ := hrel
        by_cases hlt : k < len
        · obtain ⟨sb, off, rfl, hsb, hcell⟩ : ∃ b off, a = some ⟨b, off, none⟩ ∧ b < w.heap.size ∧ ∀ i, i < len →
              w.cell? ⟨b, off + i * 2, none⟩ = some (.int .i64 (z i).1) ∧ w.cell? ⟨b, off + i * 2 + 1, none⟩ = some (.int .i64 (z i).2) ∧
              (z i).1 ≤ 9223372036854775807 ∧ (z i).2 ≤ 9223372036854775807 := by
            rcases hz with h | h
            · omega
            · exact h
          obtain ⟨e0, e1, q0, q1⟩ := hcell k hlt
          have e0 := hkw.cell e0 (fun h => h)
          have e1 := hkw.cell e1 (fun h => h)
          clear hcell hz
          generalize (z k).1 = c at *
          generalize (z k).2 = n at *
          have hbl := hr.lt
          have hr2 := hr.alloc (.cells #[.int .i64 c, .int .i64 n] 36)
          have ho := RowAt.new wr #[.int .i64 c, .int .i64 n] 36
          have hk2 := hkw.alloc (.cells #[.int .i64 c, .int .i64 n] 36)
          have hne : wr.heap.size ≠ b := by omega
          have okb := ok
          obtain ⟨m, s, e, d, p, r⟩ := x
          obtain ⟨b1, b2, b3, b4, b5, b6, b7, b8, b9, b10⟩ := okb
          simp only at b1 b2 b3 b4 b5 b6 b7 b8 b9 b10
          by_cases hc0 : c = 0
          · subst hc0
            cases hn : badN n with
            | true =>
              have HE := Lib.hid (show ackE n = 1 by simp [ackE, hn])
              have HS := Lib.hid (show ackS ⟨m, s, e, d, p, r⟩ n = ⟨m, s, e, d, p, r⟩ by simp [ackS, hn])
              clear hn
              go_wp2_with fail
              refine (size_any b _ _ hr2).mono ?_
              rintro e w' ⟨rfl, rfl⟩
              go_wp2_with fail
              refine (ack_any b k ⟨m, s, e, d, p, r⟩ n _ hr2 ok (by omega)).mono ?_
              rintro e w2 ⟨rfl, hr3, hk3⟩
              rw [HE.out]
              rw [HS.out] at hr3
              go_wp2_with (first | (go_at_call 11; refine (size_any b ⟨m, s, e, d, p, r⟩ _ hr3).mono ?_; rintro e w' ⟨rfl, rfl⟩) | (go_at_call 12; refine (edge_any b ⟨m, s, e, d, p, r⟩ _ hr3).mono ?_; rintro e w' ⟨rfl, rfl⟩))
              all_goals
                go_roundw
                case rel => exact ⟨k + 1, ⟨m, s, e, d, p, r⟩, by omega, by go_num, rfl, rfl, rfl, hr3, ok.mono (by omega), hk2.own hk3 hb⟩
                case measure => simp [intOf]; omega
            | false =>
              have HE := Lib.hid (show ackE n = 0 by simp [ackE, hn])
              have ok3 := ack_ok n ok
              obtain ⟨s', e', p', hy⟩ := ack_form ⟨m, s, e, d, p, r⟩ n hn
              rw [hy] at ok3
              have HS := Lib.hid hy
              clear hn hy
              have ok4 := ok3
              obtain ⟨g1, g2, g3, g4, g5, g6, g7, g8, g9, g10⟩ := ok4
              simp only at g1 g2 g3 g4 g5 g6
              go_wp2_with fail
              refine (size_any b _ _ hr2).mono ?_
              rintro e w' ⟨rfl, rfl⟩
              go_wp2_with fail
              refine (ack_any b k ⟨m, s, e, d, p, r⟩ n _ hr2 ok (by omega)).mono ?_
              rintro e w2 ⟨rfl, hr3, hk3⟩
              rw [HE.out]
              rw [HS.out] at hr3
              go_wp2_with (first | (go_at_call 11; refine (size_any b ⟨m, s', e', 0, p', false⟩ _ hr3).mono ?_; rintro e w' ⟨rfl, rfl⟩) | (go_at_call 12; refine (edge_any b ⟨m, s', e', 0, p', false⟩ _ hr3).mono ?_; rintro e w' ⟨rfl, rfl⟩))
              all_goals
                go_roundw
                case rel => exact ⟨k + 1, ⟨m, s', e', 0, p', false⟩, by omega, by go_num, rfl, rfl, rfl, hr3, ok3, hk2.own hk3 hb⟩
                case measure => simp [intOf]; omega
          by_cases hc1 : c = 1
          · subst hc1
            clear hc0
            by_cases hn : n < 0
            · cases r with
              | true =>
                have HE := Lib.hid (show negE n = 1 by simp [negE, hn])
                have HB := Lib.hid (show dupB ⟨m, s, e, d, p, true⟩ n = false by simp [dupB]; try omega)
                have HS := Lib.hid (show dupS ⟨m, s, e, d, p, true⟩ n = ⟨m, s, e, d, p, true⟩ by simp [dupS, hn])
                go_wp2_with fail
                refine (size_any b _ _ hr2).mono ?_
                rintro e w' ⟨rfl, rfl⟩
                go_wp2_with fail
                refine (dup_any b k ⟨m, s, e, d, p, true⟩ n _ hr2 ok (by omega) q1).mono ?_
                rintro e w2 ⟨rfl, hr3, hk3⟩
                rw [HE.out, HB.out]
                rw [HS.out] at hr3
                go_wp2_with (first | (go_at_call 11; refine (size_any b _ _ hr3).mono ?_; rintro e w' ⟨rfl, rfl⟩) | (go_at_call 12; refine (edge_any b _ _ hr3).mono ?_; rintro e w' ⟨rfl, rfl⟩))
                all_goals
                  go_roundw
                  case rel => exact ⟨k + 1, ⟨m, s, e, d, p, true⟩, by omega, by go_num, rfl, rfl, rfl, hr3, ok.mono (by omega), hk2.own hk3 hb⟩
                  case measure => simp [intOf]; omega
              | false =>
                have HE := Lib.hid (show negE n = 1 by simp [negE, hn])
                have HB := Lib.hid (show dupB ⟨m, s, e, d, p, false⟩ n = false by simp [dupB]; try omega)
                have HS := Lib.hid (show dupS ⟨m, s, e, d, p, false⟩ n = ⟨m, s, e, d, p, false⟩ by simp [dupS, hn])
                go_wp2_with fail
                refine (size_any b _ _ hr2).mono ?_
                rintro e w' ⟨rfl, rfl⟩
                go_wp2_with fail
                refine (dup_any b k ⟨m, s, e, d, p, false⟩ n _ hr2 ok (by omega) q1).mono ?_
                rintro e w2 ⟨rfl, hr3, hk3⟩
                rw [HE.out, HB.out]
                rw [HS.out] at hr3
                go_wp2_with (first | (go_at_call 11; refine (size_any b _ _ hr3).mono ?_; rintro e w' ⟨rfl, rfl⟩) | (go_at_call 12; refine (edge_any b _ _ hr3).mono ?_; rintro e w' ⟨rfl, rfl⟩))
                all_goals
                  go_roundw
                  case rel => exact ⟨k + 1, ⟨m, s, e, d, p, false⟩, by omega, by go_num, rfl, rfl, rfl, hr3, ok.mono (by omega), hk2.own hk3 hb⟩
                  case measure => simp [intOf]; omega
            · have HE := Lib.hid (show negE n = 0 by simp [negE, hn])
              have ok3 := dup_ok n ok
              obtain ⟨s', e', p', hy⟩ := dup_form ⟨m, s, e, d, p, r⟩ n (by omega)
              rw [hy] at ok3
              have HS := Lib.hid hy
              have ok4 := ok3
              obtain ⟨g1, g2, g3, g4, g5, g6, g7, g8, g9, g10⟩ := ok4
              simp only at g1 g2 g3 g4 g5 g6
              by_cases hd : d = 2
              · have hd3 : (d + 1 == 3) = true := by rw [hd]; rfl
                cases r with
                | true =>
                  have HB := Lib.hid (show dupB ⟨m, s, e, d, p, true⟩ n = false by simp [dupB])
                  rw [HB.out] at ok3
                  have HS := Lib.hid (show dupS ⟨m, s, e, d, p, true⟩ n = ⟨m, s', e', d + 1, p', true || false⟩ by rw [hy, HB.out])
                  clear hy hd
                  go_wp2_with fail
                  refine (size_any b _ _ hr2).mono ?_
                  rintro e w' ⟨rfl, rfl⟩
                  go_wp2_with fail
                  refine (dup_any b k ⟨m, s, e, d, p, true⟩ n _ hr2 ok (by omega) q1).mono ?_
                  rintro e w2 ⟨rfl, hr3, hk3⟩
                  rw [HE.out, HB.out]
                  rw [HS.out] at hr3
                  go_wp2_with (first | (go_at_call 11; refine (size_any b _ _ hr3).mono ?_; rintro e w' ⟨rfl, rfl⟩) | (go_at_call 12; refine (edge_any b _ _ hr3).mono ?_; rintro e w' ⟨rfl, rfl⟩))
                  all_goals
                    go_roundw
                    case rel => exact ⟨k + 1, ⟨m, s', e', d + 1, p', true || false⟩, by omega, by go_num, rfl, rfl, rfl, hr3, ok3, hk2.own hk3 hb⟩
                    case measure => simp [intOf]; omega
                | false =>
                  have HB := Lib.hid (show dupB ⟨m, s, e, d, p, false⟩ n = true by (simp [dupB, hd]; omega))
                  rw [HB.out] at ok3
                  have HS := Lib.hid (show dupS ⟨m, s, e, d, p, false⟩ n = ⟨m, s', e', d + 1, p', false || true⟩ by rw [hy, HB.out])
                  clear hy hd
                  go_wp2_with fail
                  refine (size_any b _ _ hr2).mono ?_
                  rintro e w' ⟨rfl, rfl⟩
                  go_wp2_with fail
                  refine (dup_any b k ⟨m, s, e, d, p, false⟩ n _ hr2 ok (by omega) q1).mono ?_
                  rintro e w2 ⟨rfl, hr3, hk3⟩
                  rw [HE.out, HB.out]
                  rw [HS.out] at hr3
                  go_wp2_with (first | (go_at_call 11; refine (size_any b _ _ hr3).mono ?_; rintro e w' ⟨rfl, rfl⟩) | (go_at_call 12; refine (edge_any b _ _ hr3).mono ?_; rintro e w' ⟨rfl, rfl⟩))
                  all_goals
                    go_roundw
                    case rel => exact ⟨k + 1, ⟨m, s', e', d + 1, p', false || true⟩, by omega, by go_num, rfl, rfl, rfl, hr3, ok3, hk2.own hk3 hb⟩
                    case measure => simp [intOf]; omega
              · have hd3 : (d + 1 == 3) = false := by simp; omega
                cases r with
                | true =>
                  have HB := Lib.hid (show dupB ⟨m, s, e, d, p, true⟩ n = false by simp [dupB])
                  rw [HB.out] at ok3
                  have HS := Lib.hid (show dupS ⟨m, s, e, d, p, true⟩ n = ⟨m, s', e', d + 1, p', true || false⟩ by rw [hy, HB.out])
                  clear hy hd
                  go_wp2_with fail
                  refine (size_any b _ _ hr2).mono ?_
                  rintro e w' ⟨rfl, rfl⟩
                  go_wp2_with fail
                  refine (dup_any b k ⟨m, s, e, d, p, true⟩ n _ hr2 ok (by omega) q1).mono ?_
                  rintro e w2 ⟨rfl, hr3, hk3⟩
                  rw [HE.out, HB.out]
                  rw [HS.out] at hr3
                  go_wp2_with (first | (go_at_call 11; refine (size_any b _ _ hr3).mono ?_; rintro e w' ⟨rfl, rfl⟩) | (go_at_call 12; refine (edge_any b _ _ hr3).mono ?_; rintro e w' ⟨rfl, rfl⟩))
                  all_goals
                    go_roundw
                    case rel => exact ⟨k + 1, ⟨m, s', e', d + 1, p', true || false⟩, by omega, by go_num, rfl, rfl, rfl, hr3, ok3, hk2.own hk3 hb⟩
                    case measure => simp [intOf]; omega
                | false =>
                  have HB := Lib.hid (show dupB ⟨m, s, e, d, p, false⟩ n = false by simp [dupB, hd])
                  rw [HB.out] at ok3
                  have HS := Lib.hid (show dupS ⟨m, s, e, d, p, false⟩ n = ⟨m, s', e', d + 1, p', false || false⟩ by rw [hy, HB.out])
                  clear hy hd
                  go_wp2_with fail
                  refine (size_any b _ _ hr2).mono ?_
                  rintro e w' ⟨rfl, rfl⟩
                  go_wp2_with fail
                  refine (dup_any b k ⟨m, s, e, d, p, false⟩ n _ hr2 ok (by omega) q1).mono ?_
                  rintro e w2 ⟨rfl, hr3, hk3⟩
                  rw [HE.out, HB.out]
                  rw [HS.out] at hr3
                  go_wp2_with (first | (go_at_call 11; refine (size_any b _ _ hr3).mono ?_; rintro e w' ⟨rfl, rfl⟩) | (go_at_call 12; refine (edge_any b _ _ hr3).mono ?_; rintro e w' ⟨rfl, rfl⟩))
                  all_goals
                    go_roundw
                    case rel => exact ⟨k + 1, ⟨m, s', e', d + 1, p', false || false⟩, by omega, by go_num, rfl, rfl, rfl, hr3, ok3, hk2.own hk3 hb⟩
                    case measure => simp [intOf]; omega
          by_cases hc2 : c = 2
          · subst hc2
            clear hc0 hc1
            by_cases hn : n < 0
            · have HE := Lib.hid (show negE n = 1 by simp [negE, hn])
              have HS := Lib.hid (show lostS ⟨m, s, e, d, p, r⟩ n = ⟨m, s, e, d, p, r⟩ by simp [lostS, hn])
              go_wp2_with fail
              refine (size_any b _ _ hr2).mono ?_
              rintro e w' ⟨rfl, rfl⟩
              go_wp2_with fail
              refine (lost_any b k ⟨m, s, e, d, p, r⟩ n _ hr2 ok q1).mono ?_
              rintro e w2 ⟨rfl, hr3, hk3⟩
              rw [HE.out]
              rw [HS.out] at hr3
              go_wp2_with (first | (go_at_call 11; refine (size_any b ⟨m, s, e, d, p, r⟩ _ hr3).mono ?_; rintro e w' ⟨rfl, rfl⟩) | (go_at_call 12; refine (edge_any b ⟨m, s, e, d, p, r⟩ _ hr3).mono ?_; rintro e w' ⟨rfl, rfl⟩))
              all_goals
                go_roundw
                case rel => exact ⟨k + 1, ⟨m, s, e, d, p, r⟩, by omega, by go_num, rfl, rfl, rfl, hr3, ok.mono (by omega), hk2.own hk3 hb⟩
                case measure => simp [intOf]; omega
            · have HE := Lib.hid (show negE n = 0 by simp [negE, hn])
              have ok3 := lost_ok n ok
              have HS := Lib.hid (show lostS ⟨m, s, e, d, p, r⟩ n = ⟨m, m, half ⟨m, s, e, d, p, r⟩ n, 0, 0, false⟩ by simp [lostS, hn])
              rw [HS.out] at ok3
              have ok4 := ok3
              obtain ⟨g1, g2, g3, g4, g5, g6, g7, g8, g9, g10⟩ := ok4
              simp only at g1 g2 g3 g4 g5 g6
              go_wp2_with fail
              refine (size_any b _ _ hr2).mono ?_
              rintro e w' ⟨rfl, rfl⟩
              go_wp2_with fail
              refine (lost_any b k ⟨m, s, e, d, p, r⟩ n _ hr2 ok q1).mono ?_
              rintro e w2 ⟨rfl, hr3, hk3⟩
              rw [HE.out]
              rw [HS.out] at hr3
              go_wp2_with (first | (go_at_call 11; refine (size_any b ⟨m, m, half ⟨m, s, e, d, p, r⟩ n, 0, 0, false⟩ _ hr3).mono ?_; rintro e w' ⟨rfl, rfl⟩) | (go_at_call 12; refine (edge_any b ⟨m, m, half ⟨m, s, e, d, p, r⟩ n, 0, 0, false⟩ _ hr3).mono ?_; rintro e w' ⟨rfl, rfl⟩))
              all_goals
                go_roundw
                case rel => exact ⟨k + 1, ⟨m, m, half ⟨m, s, e, d, p, r⟩ n, 0, 0, false⟩, by omega, by go_num, rfl, rfl, rfl, hr3, ok3, hk2.own hk3 hb⟩
                case measure => simp [intOf]; omega
          have hd0 : (c == 0) = false := by simp; exact hc0
          have hd1 : (c == 1) = false := by simp; exact hc1
          have hd2 : (c == 2) = false := by simp; exact hc2
          clear hc0 hc1 hc2
          cases hn : bad n with
          | true =>
            have HE := Lib.hid (show resE n = 1 by simp [resE, hn])
            have HS := Lib.hid (show resS ⟨m, s, e, d, p, r⟩ n = ⟨m, s, e, d, p, r⟩ by simp [resS, hn])
            clear hn
            go_wp2_with fail
            refine (size_any b _ _ hr2).mono ?_
            rintro e w' ⟨rfl, rfl⟩
            go_wp2_with fail
            refine (res_any b k ⟨m, s, e, d, p, r⟩ n _ hr2 ok).mono ?_
            rintro e w2 ⟨rfl, hr3, hk3⟩
            rw [HE.out]
            rw [HS.out] at hr3
            go_wp2_with (first | (go_at_call 11; refine (size_any b ⟨m, s, e, d, p, r⟩ _ hr3).mono ?_; rintro e w' ⟨rfl, rfl⟩) | (go_at_call 12; refine (edge_any b ⟨m, s, e, d, p, r⟩ _ hr3).mono ?_; rintro e w' ⟨rfl, rfl⟩))
            all_goals
              go_roundw
              case rel => exact ⟨k + 1, ⟨m, s, e, d, p, r⟩, by omega, by go_num, rfl, rfl, rfl, hr3, ok.mono (by omega), hk2.own hk3 hb⟩
              case measure => simp [intOf]; omega
          | false =>
            have HE := Lib.hid (show resE n = 0 by simp [resE, hn])
            have ok3 := res_ok n ok
            have HS := Lib.hid (show resS ⟨m, s, e, d, p, r⟩ n = ⟨n, max s n, max e (cap (2 * n)), d, p, r⟩ by simp [resS, hn])
            rw [HS.out] at ok3
            generalize max s n = s' at *
            generalize max e (cap (2 * n)) = e' at *
            clear hn
            have ok4 := ok3
            obtain ⟨g1, g2, g3, g4, g5, g6, g7, g8, g9, g10⟩ := ok4
            simp only at g1 g2 g3 g4 g5 g6
            go_wp2_with fail
            refine (size_any b _ _ hr2).mono ?_
            rintro e w' ⟨rfl, rfl⟩
            go_wp2_with fail
            refine (res_any b k ⟨m, s, e, d, p, r⟩ n _ hr2 ok).mono ?_
            rintro e w2 ⟨rfl, hr3, hk3⟩
            rw [HE.out]
            rw [HS.out] at hr3
            obtain ⟨o0, o1⟩ := (ho.keeps hk3 hne).two
            go_wp2_with (first | (go_at_call 11; refine (size_any b ⟨n, s', e', d, p, r⟩ _ hr3).mono ?_; rintro e w' ⟨rfl, rfl⟩) | (go_at_call 12; refine (edge_any b ⟨n, s', e', d, p, r⟩ _ hr3).mono ?_; rintro e w' ⟨rfl, rfl⟩))
            all_goals
              go_roundw
              case rel => exact ⟨k + 1, ⟨n, s', e', d, p, r⟩, by omega, by go_num, rfl, rfl, rfl, hr3, ok3, hk2.own hk3 hb⟩
              case measure => simp [intOf]; omega
        · go_wp2_with (go_at_call 10; refine (awake_any _).mono ?_; rintro e w' ⟨rfl, hk⟩)
          go_ret
          exact ⟨rfl, hkw.trans hk fun _ _ h => h⟩

end Go.Proofs.Ytgabinccjmdidaa
