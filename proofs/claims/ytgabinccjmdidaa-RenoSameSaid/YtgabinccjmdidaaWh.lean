/- RenoSame: the walk of the law. -/
import Derived.Test.YtgabinccjmdidaaWg
namespace Go.Proofs.Ytgabinccjmdidaa
open Go.RowKit

set_option maxRecDepth 100000 in
set_option maxHeartbeats 8000000 in
theorem same_walk (mss : Int) (a : Option Addr) (len cp : Nat) (z : Nat → Int × Int) (at_ : Int) (w : World) (hz : PairsIn w a len z) :
    Calls Try.prog 7 #[.int .i64 mss, .slice a len cp, .int .i64 at_] w fun e w' => e = .returned (.bool true) ∧ Keeps (fun _ => False) w w' := by
  obtain ⟨hl0, hz⟩ := hz
  cases hm : bad mss with
  | true =>
    by_cases hl : 200 < len
    · have hl' : (200 : Int) < (len : Int) := by omega
      go_enter Try.func7, Try.ntmps7
      go_wp2_with (first | (go_at_call 8; refine (new_bad _ _ hm).mono ?_; rintro e w' ⟨rfl, rfl⟩) | (go_at_call 10; refine (awake_any _).mono ?_; rintro e w' ⟨rfl, hk⟩))
      go_ret
      exact ⟨rfl, hk⟩
    · have hl' : (len : Int) ≤ 200 := by omega
      go_enter Try.func7, Try.ntmps7
      go_wp2_with (first | (go_at_call 8; refine (new_bad _ _ hm).mono ?_; rintro e w' ⟨rfl, rfl⟩) | (go_at_call 10; refine (awake_any _).mono ?_; rintro e w' ⟨rfl, hk⟩))
      go_ret
      exact ⟨rfl, hk⟩
  | false =>
    have ok0 := new_ok hm
    by_cases hl : 200 < len
    · have hl' : (200 : Int) < (len : Int) := by omega
      go_enter Try.func7, Try.ntmps7
      go_wp2_with fail
      refine (new_good _ _ hm).mono ?_
      rintro e w1 ⟨b, hb, rfl, r1, k1⟩
      go_wp2_with fail
      refine (new_good _ _ hm).mono ?_
      rintro e w2 ⟨b2, hb2, rfl, s1, k2⟩
      go_wp2_with (go_at_call 10; refine (awake_any _).mono ?_; rintro e w' ⟨rfl, hk⟩)
      go_ret
      exact ⟨rfl, (k1.trans k2 fun _ _ h => h).trans hk fun _ _ h => h⟩
    · have hl' : (len : Int) ≤ 200 := by omega
      go_enter Try.func7, Try.ntmps7
      go_wp2_with fail
      refine (new_good _ _ hm).mono ?_
      rintro e w1 ⟨b, hb, rfl, r1, k1⟩
      go_wp2_with fail
      refine (new_good _ _ hm).mono ?_
      rintro e w2 ⟨b2, hb2', rfl, s1, k2⟩
      have hb2 : w.heap.size ≤ b2 := Nat.le_trans k1.size hb2'
      have hbs : b ≠ b2 := by have := r1.lt; omega
      have r2 := r1.keeps k2 (fun h => h)
      have k3 := k1.trans k2 fun _ _ h => h
      clear hm k1 k2 r1
      go_wp2
      go_loopw [11] (fun u11 wr => ∃ (k : Nat) (x : St), k ≤ len ∧ u11 = .int .i64 k ∧ RowAt wr b x.cells 46 ∧ RowAt wr b2 x.cells 46 ∧ Ok k x ∧ Keeps (fun _ => False) w wr) (fun u11 _ => len - (intOf u11).toNat)
      case atStart => exact ⟨0, _, by omega, rfl, r2, s1, ok0, k3⟩
      case round =>
        obtain ⟨k, x, hk, rfl, hr, hs, ok, hkw⟩ := hrel
        clear r2 s1 k3 ok0
        by_cases hlt : k < len
        · obtain ⟨sb, off, rfl, hsb, hcell⟩ : ∃ b off, a = some ⟨b, off, none⟩ ∧ b < w.heap.size ∧ ∀ i, i < len →
              w.cell? ⟨b, off + i * 2, none⟩ = some (.int .i64 (z i).1) ∧ w.cell? ⟨b, off + i * 2 + 1, none⟩ = some (.int .i64 (z i).2) ∧
              (z i).1 ≤ 9223372036854775807 ∧ (z i).2 ≤ 9223372036854775807 := by
            rcases hz with h | h
            · omega
            · exact h
          obtain ⟨d0, d1, q0, q1⟩ := hcell k hlt
          clear hcell hz
          generalize (z k).1 = c at *
          generalize (z k).2 = n at *
          by_cases hat : (k : Int) = at_
          · subst hat
            have D0 := Lib.hid d0
            have D1 := Lib.hid d1
            clear d0 d1
            go_wp2_with fail
            refine (ack_any b2 k x 0 _ hs ok (by omega)).mono ?_
            rintro e wA ⟨rfl, hsA, hkA⟩
            have hsA := hsA.eq (show _ = x.cells from rfl)
            rw [show ackE 0 = 1 from rfl]
            go_wp2_with fail
            refine (dup_any b2 k x (-1) _ hsA ok (by omega) (by omega)).mono ?_
            rintro e wB ⟨rfl, hsB, hkB⟩
            have hsB := hsB.eq (show _ = x.cells from rfl)
            rw [show negE (-1) = 1 from rfl]
            go_wp2_with fail
            refine (lost_any b2 k x (-5) _ hsB ok (by omega)).mono ?_
            rintro e wC ⟨rfl, hsC, hkC⟩
            have hsC := hsC.eq (show _ = x.cells from rfl)
            rw [show negE (-5) = 1 from rfl]
            go_wp2_with fail
            refine (res_any b2 k x 0 _ hsC ok).mono ?_
            rintro e wD ⟨rfl, hsD, hkD⟩
            have hsD := hsD.eq (show _ = x.cells from rfl)
            rw [show resE 0 = 1 from rfl]
            have hrD := (((hr.keeps hkA hbs).keeps hkB hbs).keeps hkC hbs).keeps hkD hbs
            have hkwD := (((hkw.own hkA hb2).own hkB hb2).own hkC hb2).own hkD hb2
            clear hr hs hkw hsA hsB hsC hkA hkB hkC hkD
            have hr := hrD
            have hs := hsD
            have hkw := hkwD
            clear hrD hsD hkwD
            have e0 := hkw.cell D0.out (fun h => h)
            have e1 := hkw.cell D1.out (fun h => h)
            have hbl := hr.lt
            have hbl2 := hs.lt
            have hr2 := hr.alloc (.cells #[.int .i64 c, .int .i64 n] 36)
            have hs2 := hs.alloc (.cells #[.int .i64 c, .int .i64 n] 36)
            have ho := RowAt.new wD #[.int .i64 c, .int .i64 n] 36
            have hk2 := hkw.alloc (.cells #[.int .i64 c, .int .i64 n] 36)
            have hne : (wD).heap.size ≠ b := by omega
            by_cases hc0 : c = 0
            · subst hc0
              have hok3 := ack_ok n ok
              generalize hy : ackS x n = y at *
              have CON := fun (q : Nat) (W : World) (h : RowAt W q x.cells 46) => ack_any q k x n W h ok (by omega)
              simp only [hy] at CON
              clear hy
              go_wp2_with fail
              refine (CON b _ hr2).mono ?_
              rintro e' w2 ⟨rfl, hr3, hk3⟩
              have hs3 := hs2.keeps hk3 (Ne.symm hbs)
              obtain ⟨o0, o1⟩ := (ho.keeps hk3 hne).two
              go_wp2_with fail
              refine (CON b2 _ hs3).mono ?_
              rintro e'' w3 ⟨rfl, hs4, hk4⟩
              have hr4 := hr3.keeps hk4 hbs
              clear o0 o1 CON
              go_wp2_with (first
                | (go_at_call 11; ((with_reducible refine (size_any b y _ hr4).mono ?_); rintro e w' ⟨rfl, rfl⟩))
                | (go_at_call 11; ((with_reducible refine (size_any b2 y _ hs4).mono ?_); rintro e w' ⟨rfl, rfl⟩))
                | (go_at_call 12; ((with_reducible refine (edge_any b y _ hr4).mono ?_); rintro e w' ⟨rfl, rfl⟩))
                | (go_at_call 12; ((with_reducible refine (edge_any b2 y _ hs4).mono ?_); rintro e w' ⟨rfl, rfl⟩)))
              all_goals
                go_roundw
                case rel => exact ⟨k + 1, y, by omega, by go_num, hr4, hs4, hok3, (hk2.own hk3 hb).own hk4 hb2⟩
                case measure => simp [intOf]; omega
            by_cases hc1 : c = 1
            · subst hc1
              clear hc0
              have hok3 := dup_ok n ok
              generalize hy : dupS x n = y at *
              generalize hyb : dupB x n = yb at *
              have CON := fun (q : Nat) (W : World) (h : RowAt W q x.cells 46) => dup_any q k x n W h ok (by omega) q1
              simp only [hy, hyb] at CON
              clear hy hyb
              go_wp2_with fail
              refine (CON b _ hr2).mono ?_
              rintro e' w2 ⟨rfl, hr3, hk3⟩
              have hs3 := hs2.keeps hk3 (Ne.symm hbs)
              obtain ⟨o0, o1⟩ := (ho.keeps hk3 hne).two
              go_wp2_with fail
              refine (CON b2 _ hs3).mono ?_
              rintro e'' w3 ⟨rfl, hs4, hk4⟩
              have hr4 := hr3.keeps hk4 hbs
              clear o0 o1 CON
              go_wp2_with (first
                | (go_at_call 11; ((with_reducible refine (size_any b y _ hr4).mono ?_); rintro e w' ⟨rfl, rfl⟩))
                | (go_at_call 11; ((with_reducible refine (size_any b2 y _ hs4).mono ?_); rintro e w' ⟨rfl, rfl⟩))
                | (go_at_call 12; ((with_reducible refine (edge_any b y _ hr4).mono ?_); rintro e w' ⟨rfl, rfl⟩))
                | (go_at_call 12; ((with_reducible refine (edge_any b2 y _ hs4).mono ?_); rintro e w' ⟨rfl, rfl⟩)))
              all_goals
                go_roundw
                case rel => exact ⟨k + 1, y, by omega, by go_num, hr4, hs4, hok3, (hk2.own hk3 hb).own hk4 hb2⟩
                case measure => simp [intOf]; omega
            by_cases hc2 : c = 2
            · subst hc2
              clear hc0 hc1
              have hok3 := lost_ok n ok
              generalize hy : lostS x n = y at *
              have CON := fun (q : Nat) (W : World) (h : RowAt W q x.cells 46) => lost_any q k x n W h ok q1
              simp only [hy] at CON
              clear hy
              go_wp2_with fail
              refine (CON b _ hr2).mono ?_
              rintro e' w2 ⟨rfl, hr3, hk3⟩
              have hs3 := hs2.keeps hk3 (Ne.symm hbs)
              obtain ⟨o0, o1⟩ := (ho.keeps hk3 hne).two
              go_wp2_with fail
              refine (CON b2 _ hs3).mono ?_
              rintro e'' w3 ⟨rfl, hs4, hk4⟩
              have hr4 := hr3.keeps hk4 hbs
              clear o0 o1 CON
              go_wp2_with (first
                | (go_at_call 11; ((with_reducible refine (size_any b y _ hr4).mono ?_); rintro e w' ⟨rfl, rfl⟩))
                | (go_at_call 11; ((with_reducible refine (size_any b2 y _ hs4).mono ?_); rintro e w' ⟨rfl, rfl⟩))
                | (go_at_call 12; ((with_reducible refine (edge_any b y _ hr4).mono ?_); rintro e w' ⟨rfl, rfl⟩))
                | (go_at_call 12; ((with_reducible refine (edge_any b2 y _ hs4).mono ?_); rintro e w' ⟨rfl, rfl⟩)))
              all_goals
                go_roundw
                case rel => exact ⟨k + 1, y, by omega, by go_num, hr4, hs4, hok3, (hk2.own hk3 hb).own hk4 hb2⟩
                case measure => simp [intOf]; omega
            have hd0 : (c == 0) = false := by simp; exact hc0
            have hd1 : (c == 1) = false := by simp; exact hc1
            have hd2 : (c == 2) = false := by simp; exact hc2
            clear hc0 hc1 hc2
            have hok3 := res_ok n ok
            generalize hy : resS x n = y at *
            have CON := fun (q : Nat) (W : World) (h : RowAt W q x.cells 46) => res_any q k x n W h ok
            simp only [hy] at CON
            clear hy
            go_wp2_with fail
            refine (CON b _ hr2).mono ?_
            rintro e' w2 ⟨rfl, hr3, hk3⟩
            have hs3 := hs2.keeps hk3 (Ne.symm hbs)
            obtain ⟨o0, o1⟩ := (ho.keeps hk3 hne).two
            go_wp2_with fail
            refine (CON b2 _ hs3).mono ?_
            rintro e'' w3 ⟨rfl, hs4, hk4⟩
            have hr4 := hr3.keeps hk4 hbs
            clear o0 o1 CON
            go_wp2_with (first
              | (go_at_call 11; ((with_reducible refine (size_any b y _ hr4).mono ?_); rintro e w' ⟨rfl, rfl⟩))
              | (go_at_call 11; ((with_reducible refine (size_any b2 y _ hs4).mono ?_); rintro e w' ⟨rfl, rfl⟩))
              | (go_at_call 12; ((with_reducible refine (edge_any b y _ hr4).mono ?_); rintro e w' ⟨rfl, rfl⟩))
              | (go_at_call 12; ((with_reducible refine (edge_any b2 y _ hs4).mono ?_); rintro e w' ⟨rfl, rfl⟩)))
            all_goals
              go_roundw
              case rel => exact ⟨k + 1, y, by omega, by go_num, hr4, hs4, hok3, (hk2.own hk3 hb).own hk4 hb2⟩
              case measure => simp [intOf]; omega
          · have hat' : ((k : Int) == at_) = false := by simp; exact hat
            have e0 := hkw.cell d0 (fun h => h)
            have e1 := hkw.cell d1 (fun h => h)
            clear d0 d1 hat
            have hbl := hr.lt
            have hbl2 := hs.lt
            have hr2 := hr.alloc (.cells #[.int .i64 c, .int .i64 n] 36)
            have hs2 := hs.alloc (.cells #[.int .i64 c, .int .i64 n] 36)
            have ho := RowAt.new wr #[.int .i64 c, .int .i64 n] 36
            have hk2 := hkw.alloc (.cells #[.int .i64 c, .int .i64 n] 36)
            have hne : (wr).heap.size ≠ b := by omega
            by_cases hc0 : c = 0
            · subst hc0
              have hok3 := ack_ok n ok
              generalize hy : ackS x n = y at *
              have CON := fun (q : Nat) (W : World) (h : RowAt W q x.cells 46) => ack_any q k x n W h ok (by omega)
              simp only [hy] at CON
              clear hy
              go_wp2_with fail
              refine (CON b _ hr2).mono ?_
              rintro e' w2 ⟨rfl, hr3, hk3⟩
              have hs3 := hs2.keeps hk3 (Ne.symm hbs)
              obtain ⟨o0, o1⟩ := (ho.keeps hk3 hne).two
              go_wp2_with fail
              refine (CON b2 _ hs3).mono ?_
              rintro e'' w3 ⟨rfl, hs4, hk4⟩
              have hr4 := hr3.keeps hk4 hbs
              clear o0 o1 CON
              go_wp2_with (first
                | (go_at_call 11; ((with_reducible refine (size_any b y _ hr4).mono ?_); rintro e w' ⟨rfl, rfl⟩))
                | (go_at_call 11; ((with_reducible refine (size_any b2 y _ hs4).mono ?_); rintro e w' ⟨rfl, rfl⟩))
                | (go_at_call 12; ((with_reducible refine (edge_any b y _ hr4).mono ?_); rintro e w' ⟨rfl, rfl⟩))
                | (go_at_call 12; ((with_reducible refine (edge_any b2 y _ hs4).mono ?_); rintro e w' ⟨rfl, rfl⟩)))
              all_goals
                go_roundw
                case rel => exact ⟨k + 1, y, by omega, by go_num, hr4, hs4, hok3, (hk2.own hk3 hb).own hk4 hb2⟩
                case measure => simp [intOf]; omega
            by_cases hc1 : c = 1
            · subst hc1
              clear hc0
              have hok3 := dup_ok n ok
              generalize hy : dupS x n = y at *
              generalize hyb : dupB x n = yb at *
              have CON := fun (q : Nat) (W : World) (h : RowAt W q x.cells 46) => dup_any q k x n W h ok (by omega) q1
              simp only [hy, hyb] at CON
              clear hy hyb
              go_wp2_with fail
              refine (CON b _ hr2).mono ?_
              rintro e' w2 ⟨rfl, hr3, hk3⟩
              have hs3 := hs2.keeps hk3 (Ne.symm hbs)
              obtain ⟨o0, o1⟩ := (ho.keeps hk3 hne).two
              go_wp2_with fail
              refine (CON b2 _ hs3).mono ?_
              rintro e'' w3 ⟨rfl, hs4, hk4⟩
              have hr4 := hr3.keeps hk4 hbs
              clear o0 o1 CON
              go_wp2_with (first
                | (go_at_call 11; ((with_reducible refine (size_any b y _ hr4).mono ?_); rintro e w' ⟨rfl, rfl⟩))
                | (go_at_call 11; ((with_reducible refine (size_any b2 y _ hs4).mono ?_); rintro e w' ⟨rfl, rfl⟩))
                | (go_at_call 12; ((with_reducible refine (edge_any b y _ hr4).mono ?_); rintro e w' ⟨rfl, rfl⟩))
                | (go_at_call 12; ((with_reducible refine (edge_any b2 y _ hs4).mono ?_); rintro e w' ⟨rfl, rfl⟩)))
              all_goals
                go_roundw
                case rel => exact ⟨k + 1, y, by omega, by go_num, hr4, hs4, hok3, (hk2.own hk3 hb).own hk4 hb2⟩
                case measure => simp [intOf]; omega
            by_cases hc2 : c = 2
            · subst hc2
              clear hc0 hc1
              have hok3 := lost_ok n ok
              generalize hy : lostS x n = y at *
              have CON := fun (q : Nat) (W : World) (h : RowAt W q x.cells 46) => lost_any q k x n W h ok q1
              simp only [hy] at CON
              clear hy
              go_wp2_with fail
              refine (CON b _ hr2).mono ?_
              rintro e' w2 ⟨rfl, hr3, hk3⟩
              have hs3 := hs2.keeps hk3 (Ne.symm hbs)
              obtain ⟨o0, o1⟩ := (ho.keeps hk3 hne).two
              go_wp2_with fail
              refine (CON b2 _ hs3).mono ?_
              rintro e'' w3 ⟨rfl, hs4, hk4⟩
              have hr4 := hr3.keeps hk4 hbs
              clear o0 o1 CON
              go_wp2_with (first
                | (go_at_call 11; ((with_reducible refine (size_any b y _ hr4).mono ?_); rintro e w' ⟨rfl, rfl⟩))
                | (go_at_call 11; ((with_reducible refine (size_any b2 y _ hs4).mono ?_); rintro e w' ⟨rfl, rfl⟩))
                | (go_at_call 12; ((with_reducible refine (edge_any b y _ hr4).mono ?_); rintro e w' ⟨rfl, rfl⟩))
                | (go_at_call 12; ((with_reducible refine (edge_any b2 y _ hs4).mono ?_); rintro e w' ⟨rfl, rfl⟩)))
              all_goals
                go_roundw
                case rel => exact ⟨k + 1, y, by omega, by go_num, hr4, hs4, hok3, (hk2.own hk3 hb).own hk4 hb2⟩
                case measure => simp [intOf]; omega
            have hd0 : (c == 0) = false := by simp; exact hc0
            have hd1 : (c == 1) = false := by simp; exact hc1
            have hd2 : (c == 2) = false := by simp; exact hc2
            clear hc0 hc1 hc2
            have hok3 := res_ok n ok
            generalize hy : resS x n = y at *
            have CON := fun (q : Nat) (W : World) (h : RowAt W q x.cells 46) => res_any q k x n W h ok
            simp only [hy] at CON
            clear hy
            go_wp2_with fail
            refine (CON b _ hr2).mono ?_
            rintro e' w2 ⟨rfl, hr3, hk3⟩
            have hs3 := hs2.keeps hk3 (Ne.symm hbs)
            obtain ⟨o0, o1⟩ := (ho.keeps hk3 hne).two
            go_wp2_with fail
            refine (CON b2 _ hs3).mono ?_
            rintro e'' w3 ⟨rfl, hs4, hk4⟩
            have hr4 := hr3.keeps hk4 hbs
            clear o0 o1 CON
            go_wp2_with (first
              | (go_at_call 11; ((with_reducible refine (size_any b y _ hr4).mono ?_); rintro e w' ⟨rfl, rfl⟩))
              | (go_at_call 11; ((with_reducible refine (size_any b2 y _ hs4).mono ?_); rintro e w' ⟨rfl, rfl⟩))
              | (go_at_call 12; ((with_reducible refine (edge_any b y _ hr4).mono ?_); rintro e w' ⟨rfl, rfl⟩))
              | (go_at_call 12; ((with_reducible refine (edge_any b2 y _ hs4).mono ?_); rintro e w' ⟨rfl, rfl⟩)))
            all_goals
              go_roundw
              case rel => exact ⟨k + 1, y, by omega, by go_num, hr4, hs4, hok3, (hk2.own hk3 hb).own hk4 hb2⟩
              case measure => simp [intOf]; omega
        · go_wp2_with (go_at_call 10; refine (awake_any _).mono ?_; rintro e w' ⟨rfl, hk⟩)
          go_ret
          exact ⟨rfl, hkw.trans hk fun _ _ h => h⟩

theorem same_row (mss : Int) (a : Option Addr) (len cp : Nat) (z : Nat → Int × Int) (at_ : Int) (w : World) (_ : (Lit.int .i64 mss).wf = true) (hz : PairsIn w a len z) (_ : (Lit.int .i64 at_).wf = true) :
    Calls Try.prog 7 #[.int .i64 mss, .slice a len cp, .int .i64 at_] w fun e w' => e = .returned (.bool true) ∧ Below w.heap.size w w' :=
  (same_walk mss a len cp z at_ w hz).mono fun _ _ h => ⟨h.1, h.2.below _ (Nat.le_refl _) fun _ _ h => h⟩

end Go.Proofs.Ytgabinccjmdidaa
