/- Words, walks and plain laws that the claim leans on, part 26. -/
import Derived.Test.YtngpbihnmgjniaaDoorM24
import Derived.Test.YtngpbihnmgjniaaDoorM25

/-! The law SplitAgain. -/
namespace Go.Proofs.YtngpbihnmgjniaaDoor
set_option linter.unusedVariables false
set_option linter.unusedSimpArgs false
open Go.RowKit

set_option maxRecDepth 100000 in
set_option maxHeartbeats 8000000 in
theorem lagain_any (p : P4) (dv : Value) (mtu more : Int) (w : World) (hd : BRd w dv p.data) (hs : Sized4 p) (hm1 : -9223372036854775808 ≤ mtu) (hg : ErrT w) :
    Calls Tryd.prog 3 #[.agg (p4cells p dv), .int .i64 mtu, .int .i64 more] w fun e w' => e = .returned (.bool true) ∧ Keeps (fun _ => False) w w' := by
  obtain ⟨da, dc, rfl, hdc, hdm⟩ := hd.slice
  simp only [maxLen] at hdm
  have hk0 := (Keeps.refl (fun _ => False) w).alloc (.cells (p4cells p (.slice da p.data.length dc)) 24)
  have hr0 := RowAt.new w (p4cells p (.slice da p.data.length dc)) 24
  obtain ⟨c0, c1, c2, c3, c4, c5, c6, c7, c8, c9, c10⟩ := hr0.p4
  have hfew := few_any p (.slice da p.data.length dc) _ (hd.keeps hk0) hs
  by_cases hF : fewS p = true
  case neg =>
    have hF' : fewS p = false := by simpa using hF
    rw [hF'] at hfew
    have HFEW := Lib.hid hfew
    clear hfew hF hF'
    generalize hw1 : w.alloc (.cells (p4cells p (.slice da p.data.length dc)) 24) = w1 at hk0 hr0 c0 c1 c2 c3 c4 c5 c6 c7 c8 c9 c10 HFEW
    obtain ⟨q, hq⟩ : ∃ b, w.heap.size = b := ⟨_, rfl⟩
    rw [hq] at hr0 c0 c1 c2 c3 c4 c5 c6 c7 c8 c9 c10
    go_enter Tryd.func3, Tryd.ntmps3
    go_wp2_with fail
    refine HFEW.out.mono ?_
    rintro e w2 ⟨rfl, hk2⟩
    have hkA := hk0.trans hk2 (fun _ _ h => h)
    go_wp2
    go_ret
    exact ⟨rfl, hkA⟩
  case pos =>
    rw [hF] at hfew
    have HFEW := Lib.hid hfew
    obtain ⟨F1, F2⟩ := fewS_facts p hF
    clear hfew hF
    by_cases hm0 : more < 0
    · generalize hw1 : w.alloc (.cells (p4cells p (.slice da p.data.length dc)) 24) = w1 at hk0 hr0 c0 c1 c2 c3 c4 c5 c6 c7 c8 c9 c10 HFEW
      obtain ⟨q, hq⟩ : ∃ b, w.heap.size = b := ⟨_, rfl⟩
      rw [hq] at hr0 c0 c1 c2 c3 c4 c5 c6 c7 c8 c9 c10
      go_enter Tryd.func3, Tryd.ntmps3
      go_wp2_with fail
      refine HFEW.out.mono ?_
      rintro e w2 ⟨rfl, hk2⟩
      have hkA := hk0.trans hk2 (fun _ _ h => h)
      go_wp2
      go_ret
      exact ⟨rfl, hkA⟩
    · have hm0' : 0 ≤ more := by omega
      by_cases hm7 : 70000 < more
      · generalize hw1 : w.alloc (.cells (p4cells p (.slice da p.data.length dc)) 24) = w1 at hk0 hr0 c0 c1 c2 c3 c4 c5 c6 c7 c8 c9 c10 HFEW
        obtain ⟨q, hq⟩ : ∃ b, w.heap.size = b := ⟨_, rfl⟩
        rw [hq] at hr0 c0 c1 c2 c3 c4 c5 c6 c7 c8 c9 c10
        go_enter Tryd.func3, Tryd.ntmps3
        go_wp2_with fail
        refine HFEW.out.mono ?_
        rintro e w2 ⟨rfl, hk2⟩
        have hkA := hk0.trans hk2 (fun _ _ h => h)
        go_wp2
        go_ret
        exact ⟨rfl, hkA⟩
      · have hm7' : more ≤ 70000 := by omega
        by_cases hmt : 70000 < mtu
        · generalize hw1 : w.alloc (.cells (p4cells p (.slice da p.data.length dc)) 24) = w1 at hk0 hr0 c0 c1 c2 c3 c4 c5 c6 c7 c8 c9 c10 HFEW
          obtain ⟨q, hq⟩ : ∃ b, w.heap.size = b := ⟨_, rfl⟩
          rw [hq] at hr0 c0 c1 c2 c3 c4 c5 c6 c7 c8 c9 c10
          go_enter Tryd.func3, Tryd.ntmps3
          go_wp2_with fail
          refine HFEW.out.mono ?_
          rintro e w2 ⟨rfl, hk2⟩
          have hkA := hk0.trans hk2 (fun _ _ h => h)
          go_wp2
          go_ret
          exact ⟨rfl, hkA⟩
        · have hmt' : mtu ≤ 70000 := by omega
          clear hm0 hm7 hmt
          have qw : IntKind.i64.wrap (mtu + more) = mtu + more := i64_fit _ (by omega) (by omega)
          obtain ⟨hA, hB⟩ := splitR_more p mtu more hm0' F2
          have hsame := splitR_same p
          have hwhole := splitR_whole p mtu
          obtain ⟨E, hE⟩ : ∃ E, (splitR p mtu).1 = E := ⟨_, rfl⟩
          obtain ⟨L, hL⟩ : ∃ L, (splitR p mtu).2 = L := ⟨_, rfl⟩
          obtain ⟨F, hF⟩ : ∃ E, (splitR p (mtu + more)).1 = E := ⟨_, rfl⟩
          obtain ⟨M, hM⟩ : ∃ L, (splitR p (mtu + more)).2 = L := ⟨_, rfl⟩
          have hsp1 := fun W hk => split_any p (.slice da p.data.length dc) mtu W (hg.keeps hk) (hd.keeps hk) (by omega) (by omega) hm1 (by omega)
          have hsp2 := fun W hk => split_any p (.slice da p.data.length dc) (mtu + more) W (hg.keeps hk) (hd.keeps hk) (by omega) (by omega) (by omega) (by omega)
          unfold Splits at hsp1 hsp2
          rw [hE, hF] at hA hB
          rw [hL, hM] at hB
          rw [hE, hL] at hsp1
          rw [hF, hM] at hsp2
          rw [hE, hL] at hwhole
          have hsame2 : E = 0 → ∀ q ∈ L, splitR q mtu = (0, [q]) := fun h q hq => hsame q mtu (hE.trans h) (by rw [hL]; exact hq)
          have HA := Lib.hid hA
          have HB := Lib.hid hB
          have HW := Lib.hid hwhole
          have HS := Lib.hid hsame2
          have H1 := Lib.hid hsp1
          have H2 := Lib.hid hsp2
          clear hA hB hwhole hsame hsame2 hsp1 hsp2 hE hL hF hM
          generalize hw1 : w.alloc (.cells (p4cells p (.slice da p.data.length dc)) 24) = w1 at hk0 hr0 c0 c1 c2 c3 c4 c5 c6 c7 c8 c9 c10 HFEW
          obtain ⟨q, hq⟩ : ∃ b, w.heap.size = b := ⟨_, rfl⟩
          rw [hq] at hr0 c0 c1 c2 c3 c4 c5 c6 c7 c8 c9 c10
          go_enter Tryd.func3, Tryd.ntmps3
          go_wp2_with fail
          refine HFEW.out.mono ?_
          rintro e w2 ⟨rfl, hk2⟩
          have hkA := hk0.trans hk2 (fun _ _ h => h)
          have hr2 := hr0.keeps hk2 (fun h => h)
          clear c0 c1 c2 c3 c4 c5 c6 c7 c8 c9 c10
          obtain ⟨c0, c1, c2, c3, c4, c5, c6, c7, c8, c9, c10⟩ := hr2.p4
          clear hk0 hr0 hk2 HFEW
          go_wp2_with fail
          refine (H1.out _ hkA).mono ?_
          rintro e w3 ⟨v3, rfl, hp3, hk3⟩
          have hkB := hkA.trans hk3 (fun _ _ h => h)
          have hr3 := hr2.keeps hk3 (fun h => h)
          clear c0 c1 c2 c3 c4 c5 c6 c7 c8 c9 c10
          obtain ⟨c0, c1, c2, c3, c4, c5, c6, c7, c8, c9, c10⟩ := hr3.p4
          clear hkA hk3 hr2
          go_wp2_with fail
          refine (H2.out _ hkB).mono ?_
          rintro e w4 ⟨v4, rfl, hp4, hk4⟩
          have hkC := hkB.trans hk4 (fun _ _ h => h)
          have hr4 := hr3.keeps hk4 (fun h => h)
          have hp34 := hp3.keeps hk4
          clear c0 c1 c2 c3 c4 c5 c6 c7 c8 c9 c10 hkB hk4 hr3 hp3 H1 H2
          by_cases hE0 : E = 0
          · subst hE0
            have hwh := HW.out (by first | rfl | trivial)
            have hLd : L.length ≤ 100000 := by have := hwh.len; omega
            have hm68 := hwh.mtu68
            obtain ⟨va, vc, rfl, -, -⟩ := hp34.slice
            clear hwh
            go_wp2
            go_loopw [11] (fun u11 wr => ∃ i : Nat, i ≤ L.length ∧ u11 = .int .i64 i ∧ Keeps (fun _ => False) w4 wr) (fun u11 _ => L.length - (intOf u11).toNat)
            case atStart => exact ⟨0, by omega, rfl, Keeps.refl _ _⟩
            case round =>
              obtain ⟨i, hi, rfl, hkw⟩ := hrel
              have hkD := hkC.trans hkw (fun _ _ h => h)
              by_cases hlt : i < L.length
              · have hlt' : (i : Int) < (L.length : Int) := by omega
                have hi0 : (0 : Int) ≤ (i : Int) := by omega
                have hpw := hp34.keeps hkw
                obtain ⟨b, off, -, rfl, -, -⟩ := hpw.at i hlt
                obtain ⟨dvi, hdi, c0, c1, c2, c3, c4, c5, c6, c7, c8, c9, c10⟩ := hpw.cells i hlt
                have hsm := HS.out (by first | rfl | trivial) _ (List.getElem_mem hlt)
                obtain ⟨Q, hQ⟩ : ∃ Q, L[i] = Q := ⟨_, rfl⟩
                have hq := (HW.out (by first | rfl | trivial)).fits _ (List.getElem_mem hlt)
                rw [hQ] at hdi c0 c1 c2 c3 c4 c5 c6 c7 c8 c9 hsm hq
                obtain ⟨-, -, -, -, -, -, -, -, -, hQ40, hQall⟩ := check_facts Q hq.1
                have hsp := split_any Q dvi mtu _ (hg.keeps hkD) hdi (by omega) (by have := ((HW.out (by first | rfl | trivial)).each i hlt).dl; rw [hQ] at this; omega) hm1 (by omega)
                unfold Splits at hsp
                rw [hsm] at hsp
                have HSP := Lib.hid hsp
                obtain ⟨ai, zi, rfl, -, -⟩ := hdi.slice
                clear hq hsm hsp hQ
                go_wp2_with fail
                refine HSP.out.mono ?_
                rintro e w5 ⟨v5, rfl, hp5, hk5⟩
                have hkE := hkD.trans hk5 (fun _ _ h => h)
                have hpw5 := hpw.keeps hk5
                have hd5 := hdi.keeps hk5
                have hkw5 := hkw.trans hk5 (fun _ _ h => h)
                obtain ⟨v5a, v5c, rfl, -, -⟩ := hp5.slice
                obtain ⟨b5, o5, -, rfl, -, -⟩ := hp5.at 0 (by simp)
                obtain ⟨dv5, hdv5, e0, e1, e2, e3, e4, e5, e6, e7, e8, e9, e10⟩ := hp5.cells 0 (by simp)
                have g0 := hk5.cell c0 (fun h => h)
                have g1 := hk5.cell c1 (fun h => h)
                have g2 := hk5.cell c2 (fun h => h)
                have g3 := hk5.cell c3 (fun h => h)
                have g4 := hk5.cell c4 (fun h => h)
                have g5 := hk5.cell c5 (fun h => h)
                have g6 := hk5.cell c6 (fun h => h)
                have g7 := hk5.cell c7 (fun h => h)
                have g8 := hk5.cell c8 (fun h => h)
                have g9 := hk5.cell c9 (fun h => h)
                have g10 := hk5.cell c10 (fun h => h)
                simp only [List.getElem_cons_zero, Nat.zero_mul, Nat.add_zero] at e0 e1 e2 e3 e4 e5 e6 e7 e8 e9 e10 hdv5
                obtain ⟨a5, z5, rfl, -, -⟩ := hdv5.slice
                clear c0 c1 c2 c3 c4 c5 c6 c7 c8 c9 c10 hpw hdi HSP hp5 hpw5
                go_wp2
                refine region_draws_tail 15 (by kernel_rfl) (by kernel_rfl) ?_
                simp only [List.take_succ_cons, List.take_zero, List.drop_succ_cons, List.drop_zero]
                repeat (go_big_quiet_step (fail))
                refine wpQuiet_nil ?_
                rintro _ ⟨nq, rfl⟩
                have hkq := (Keeps.refl (fun _ => False) w5).drewN nq
                go_wp2_with fail
                refine (same4_any Q (.slice a5 Q.data.length z5) (.slice ai Q.data.length zi) _ (hdv5.keeps hkq) (hd5.keeps hkq)).mono ?_
                rintro e w6 ⟨rfl, hk6⟩
                go_wp2
                go_roundw
                case rel => exact ⟨i + 1, by omega, by go_num, (hkw5.drewN _).trans hk6 (fun _ _ h => h)⟩
                case measure => simp [intOf]; omega
              · have hlt' : (L.length : Int) ≤ (i : Int) := by omega
                have hkE := hkC.trans hkw (fun _ _ h => h)
                have hr5 := hr4.keeps hkw (fun h => h)
                have hpM := hp4.keeps hkw
                obtain ⟨ma, mc, rfl, -, -⟩ := hpM.slice
                rcases HB.out (by first | rfl | trivial) with ⟨hF0, hML⟩ | ⟨hF2, h6⟩
                · subst hF0
                  have hML' : (M.length : Int) ≤ (L.length : Int) := by omega
                  clear hr5 hr4
                  go_wp2_with (refine (awake_any _ (hg.keeps hkE)).mono ?_; rintro e w8 ⟨rfl, hk8⟩)
                  go_ret
                  exact ⟨rfl, hkE.trans hk8 (fun _ _ h => h)⟩
                · subst hF2
                  go_wp2_with (refine (awake_any _ (hg.keeps hkE)).mono ?_; rintro e w8 ⟨rfl, hk8⟩; have g6 := hk8.cell (hr5.p4.2.2.2.2.2.2.1) (fun h => h))
                  go_ret
                  exact ⟨rfl, hkE.trans hk8 (fun _ _ h => h)⟩
          · have hEb : (E == 0) = false := beq_eq_false_iff_ne.2 hE0
            rcases HA.out hE0 with h | h | h
            · subst h
              have hFb : (F == F) = true := by simp
              go_wp2_with (refine (awake_any _ (hg.keeps hkC)).mono ?_; rintro e w8 ⟨rfl, hk8⟩)
              all_goals
                go_ret
                refine ⟨?_, hkC.trans hk8 (fun _ _ h => h)⟩
                first | rfl | (simp; done) | (simp; omega)
            · subst h
              go_wp2_with (refine (awake_any _ (hg.keeps hkC)).mono ?_; rintro e w8 ⟨rfl, hk8⟩)
              all_goals
                go_ret
                refine ⟨?_, hkC.trans hk8 (fun _ _ h => h)⟩
                first | rfl | (simp; done) | (simp; omega)
            · go_wp2_with (refine (awake_any _ (hg.keeps hkC)).mono ?_; rintro e w8 ⟨rfl, hk8⟩)
              all_goals
                go_ret
                refine ⟨?_, hkC.trans hk8 (fun _ _ h => h)⟩
                first | rfl | (simp; done) | (simp; omega)

theorem lagain_row (p : P4) (dv : Value) (mtu more : Int) (w : World) (hd : BAt w (· < w.heap.size) dv p.data) (hs : Sized4 p) (hm : (Lit.int .i64 mtu).wf = true) (_ : (Lit.int .i64 more).wf = true) (hg : ErrT w) :
    Calls Tryd.prog 3 #[.agg (p4cells p dv), .int .i64 mtu, .int .i64 more] w fun e w' => e = .returned (.bool true) ∧ Keeps (fun _ => False) w w' :=
  lagain_any p dv mtu more w hd hs (wf_range mtu hm).1 hg
end Go.Proofs.YtngpbihnmgjniaaDoor
