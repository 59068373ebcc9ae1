/- Words, walks and plain laws that the claim leans on, part 17. -/
import Derived.Test.YtiodmhcmciohnaaK11
import Derived.Test.YtiodmhcmciohnaaK16

/-! The law FlowPrefix. -/
namespace Go.Proofs.Ytiodmhcmciohnaa
set_option linter.unusedVariables false
set_option linter.unusedSimpArgs false
open Go.RowKit

/-- What stands between two rounds. -/
def PreI (w : World) (g : Nat) (room : Int) (all : List UInt8) (nL : Nat) (u9 u10 : Value) (wr : World) : Prop :=
  ∃ (i next : Nat) (l : List UInt8) (Lp : List Pt) (bv pv : Value) (out : List UInt8), i ≤ nL ∧ u10 = .int .i64 i ∧ BOwn wr w.heap.size u9 out ∧ RecvS (fun b => u9.ownBlock = some b) w g room all next l Lp bv pv wr ∧ out ++ l = all.take next

set_option maxRecDepth 100000 in
set_option maxHeartbeats 8000000 in
theorem lprefix_any (dv rv : Value) (all : List UInt8) (room : Int) (L : List TriV) (w : World) (hA : BRd w dv all) (hR : TriRd w rv L) :
    Calls Try.prog 4 #[dv, .int .i64 room, rv] w fun e w' => e = .returned (.bool true) ∧ Keeps (fun _ => False) w w' := by
  obtain ⟨da, dc, rfl, hdc, hdm⟩ := BAt.slice hA
  obtain ⟨ra, rc, rfl, hrc, hrm⟩ := hR.slice
  simp only [maxLen] at hrm hdm
  have hns := newr_any room w
  unfold NewR at hns
  have HA := Lib.hid hA
  have HR := Lib.hid hR
  clear hA hR
  cases hb : mayR room with
  | false =>
    rw [hb] at hns
    have HNS := Lib.hid hns
    clear hns
    by_cases c1 : (1000 : Int) < (all.length : Int)
    · go_enter Try.func4, Try.ntmps4
      go_wp2_with fail
      refine HNS.out.mono ?_
      rintro e w2 ⟨hk2, ⟨-, rfl⟩ | ⟨h, -⟩⟩
      rotate_left 1
      · cases h
      as_aux_lemma =>
        go_wp2_with (go_at_call 10; refine (awake_any _).mono ?_; rintro e w9 ⟨rfl, hk9⟩)
        go_ret
        exact ⟨rfl, (hk2).trans hk9 (fun _ _ h => h)⟩
    · by_cases c2 : (60 : Int) < (L.length : Int)
      · go_enter Try.func4, Try.ntmps4
        go_wp2_with fail
        refine HNS.out.mono ?_
        rintro e w2 ⟨hk2, ⟨-, rfl⟩ | ⟨h, -⟩⟩
        rotate_left 1
        · cases h
        as_aux_lemma =>
          go_wp2_with (go_at_call 10; refine (awake_any _).mono ?_; rintro e w9 ⟨rfl, hk9⟩)
          go_ret
          exact ⟨rfl, (hk2).trans hk9 (fun _ _ h => h)⟩
      · go_enter Try.func4, Try.ntmps4
        go_wp2_with fail
        refine HNS.out.mono ?_
        rintro e w2 ⟨hk2, ⟨-, rfl⟩ | ⟨h, -⟩⟩
        rotate_left 1
        · cases h
        as_aux_lemma =>
          go_wp2_with (go_at_call 10; refine (awake_any _).mono ?_; rintro e w9 ⟨rfl, hk9⟩)
          go_ret
          exact ⟨rfl, (hk2).trans hk9 (fun _ _ h => h)⟩
  | true =>
    have hb' := hb
    unfold mayR at hb'
    simp only [Bool.and_eq_true, decide_eq_true_eq] at hb'
    obtain ⟨hb1, hb2⟩ := hb'
    rw [hb] at hns
    have HNS := Lib.hid hns
    clear hns hb
    by_cases c1 : (1000 : Int) < (all.length : Int)
    · go_enter Try.func4, Try.ntmps4
      go_wp2_with fail
      refine HNS.out.mono ?_
      rintro e w2 ⟨hk2, ⟨h, -⟩ | ⟨-, g, rfl, hg, hrg⟩⟩
      · cases h
      as_aux_lemma =>
        go_wp2_with (go_at_call 10; refine (awake_any _).mono ?_; rintro e w9 ⟨rfl, hk9⟩)
        go_ret
        exact ⟨rfl, (hk2).trans hk9 (fun _ _ h => h)⟩
    · by_cases c2 : (60 : Int) < (L.length : Int)
      · go_enter Try.func4, Try.ntmps4
        go_wp2_with fail
        refine HNS.out.mono ?_
        rintro e w2 ⟨hk2, ⟨h, -⟩ | ⟨-, g, rfl, hg, hrg⟩⟩
        · cases h
        as_aux_lemma =>
          go_wp2_with (go_at_call 10; refine (awake_any _).mono ?_; rintro e w9 ⟨rfl, hk9⟩)
          go_ret
          exact ⟨rfl, (hk2).trans hk9 (fun _ _ h => h)⟩
      · go_enter Try.func4, Try.ntmps4
        go_wp2_with fail
        refine HNS.out.mono ?_
        rintro e w2 ⟨hk2, ⟨h, -⟩ | ⟨-, g, rfl, hg, hrg⟩⟩
        · cases h
        clear HNS
        go_wp2_with fail
        go_loopw [9, 10] (fun u9 u10 wr => PreI w g room all L.length u9 u10 wr) (fun _ u10 _ => L.length - (intOf u10).toNat)
        case atStart => exact ⟨0, 0, [], [], _, _, [], Nat.zero_le _, rfl, BOwn.nil _ _, ⟨hrg, BOwn.nil _ _, TRd.nil _ _, ⟨List.Pairwise.nil, fun _ h => by cases h⟩, by simp, Nat.zero_le _, fun b e => by simp [Value.ownBlock] at e, hg, hk2⟩, rfl⟩
        case round =>
          obtain ⟨i, next, l, Lp, bv, pv, out, hi, rfl, hoO, hS, hE⟩ := hrel
          have HS := Lib.hid hS
          have HE := Lib.hid hE
          obtain ⟨oa, oc, rfl, -, -⟩ := BOwn.slice hoO
          have HO := Lib.hid hoO
          clear hS hE hoO hrg hk2
          by_cases hlt : i < L.length
          · obtain ⟨b, off, c', he, hbl, hft, k0, k1, k2⟩ := TriRd.at HR.out i hlt
            obtain ⟨rfl, -, rfl⟩ : ra = some ⟨b, off, none⟩ ∧ True ∧ rc = c' := by
              simp only [Value.slice.injEq] at he
              exact ⟨he.1, trivial, he.2.2⟩
            obtain ⟨o, ho⟩ : ∃ o, L[i] = o := ⟨_, rfl⟩
            rw [ho] at hft k0 k1 k2
            clear he ho
            obtain ⟨at', n, rd⟩ := o
            obtain ⟨fa1, fa2, fn1, fn2, fr1, fr2⟩ := hft
            simp only at fa1 fa2 fn1 fn2 fr1 fr2 k0 k1 k2
            have hL0 := HS.out.hk.cell k0 (fun h => h)
            have hL1 := HS.out.hk.cell k1 (fun h => h)
            have hL2 := HS.out.hk.cell k2 (fun h => h)
            clear k0 k1 k2
            have hkA := ((Keeps.refl (fun _ => False) wr).alloc (.cells #[.int .i64 at', .int .i64 n, .int .i64 rd] 48))
            by_cases d1 : at' < 0
            · as_aux_lemma =>
                go_wp2_with fail
                go_roundw
                case rel => exact ⟨i + 1, next, l, Lp, bv, pv, out, by omega, by go_num, HO.out.keeps hkA (fun _ _ h => h), HS.out.keeps hkA, HE.out⟩
                case measure => simp [intOf]; omega
            · by_cases d2 : n < 0
              · as_aux_lemma =>
                  go_wp2_with fail
                  go_roundw
                  case rel => exact ⟨i + 1, next, l, Lp, bv, pv, out, by omega, by go_num, HO.out.keeps hkA (fun _ _ h => h), HS.out.keeps hkA, HE.out⟩
                  case measure => simp [intOf]; omega
              · by_cases d3 : (all.length : Int) < at'
                · as_aux_lemma =>
                    go_wp2_with fail
                    go_roundw
                    case rel => exact ⟨i + 1, next, l, Lp, bv, pv, out, by omega, by go_num, HO.out.keeps hkA (fun _ _ h => h), HS.out.keeps hkA, HE.out⟩
                    case measure => simp [intOf]; omega
                · have q1 := i64_fit ((all.length : Int) - at') (by omega) (by omega)
                  by_cases d4 : (all.length : Int) - at' < n
                  · as_aux_lemma =>
                      go_wp2_with fail
                      go_roundw
                      case rel => exact ⟨i + 1, next, l, Lp, bv, pv, out, by omega, by go_num, HO.out.keeps hkA (fun _ _ h => h), HS.out.keeps hkA, HE.out⟩
                      case measure => simp [intOf]; omega
                  · by_cases d5 : rd < 0
                    · as_aux_lemma =>
                        go_wp2_with fail
                        go_roundw
                        case rel => exact ⟨i + 1, next, l, Lp, bv, pv, out, by omega, by go_num, HO.out.keeps hkA (fun _ _ h => h), HS.out.keeps hkA, HE.out⟩
                        case measure => simp [intOf]; omega
                    · obtain ⟨k, rfl⟩ : ∃ k : Nat, at' = (k : Int) := ⟨at'.toNat, by omega⟩
                      obtain ⟨N, rfl⟩ : ∃ N : Nat, n = (N : Int) := ⟨n.toNat, by omega⟩
                      clear fa1 fa2 fn1 fn2
                      have hq := RowAt.new wr #[.int .i64 k, .int .i64 N, .int .i64 rd] 48
                      have hSA := HS.out.keeps hkA
                      have hOA := HO.out.keeps hkA (fun _ _ h => h)
                      go_wp2_with fail
                      obtain ⟨q, hqe⟩ : ∃ q, wr.heap.size = q := ⟨_, rfl⟩
                      rw [hqe] at hq ⊢
                      obtain ⟨W, hW⟩ : ∃ W, wr.alloc (.cells #[.int .i64 k, .int .i64 N, .int .i64 rd] 48) = W := ⟨_, rfl⟩
                      rw [hW] at hq hSA hOA ⊢
                      refine (next_s hSA).mono ?_
                      rintro e w2 ⟨rfl, rfl⟩
                      have HSA := Lib.hid hSA
                      have HOA := Lib.hid hOA
                      have HRD := Lib.hid d5
                      clear hL0 hL1 hL2 hW hqe hkA HS HO hSA hOA d1 d2 d3 d5 q1
                      have d4' : k + N ≤ all.length := by omega
                      clear d4
                      have hnx := HSA.out.nx
                      have hll : l.length ≤ next := by
                        have := congrArg List.length HE.out
                        rw [List.length_append, List.length_take] at this
                        omega
                      have hol : out.length + l.length = next := by
                        have := congrArg List.length HE.out
                        rw [List.length_append, List.length_take] at this
                        omega
                      have ha1 : all.length ≤ 1000 := by omega
                      have j0 : W.cell? ⟨q, 0, none⟩ = some (.int .i64 k) := hq.cell 0
                      have j1 : W.cell? ⟨q, 1, none⟩ = some (.int .i64 N) := hq.cell 1
                      obtain ⟨to, hto⟩ : ∃ t : Nat, k + N = t := ⟨_, rfl⟩
                      have q2 : IntKind.i64.wrap ((k : Int) + (N : Int)) = (to : Int) := by rw [i64_fit _ (by omega) (by omega)]; omega
                      have hkt : (k : Int) ≤ (to : Int) := by omega
                      have htc : (to : Int) ≤ (dc : Int) := by omega
                      have hdW : BRd W (.slice da all.length dc) all := HA.out.keeps HSA.out.hk
                      have hcut := BAt.cutG hdW k (by omega)
                      have hpc := BAt.take (l := all.drop k) (a := cutA da dc k) (c := dc - k) (p := (· < W.heap.size)) (w := W) (by rw [List.length_drop]; exact hcut) (to - k) (by rw [List.length_drop]; omega)
                      rw [show (all.drop k).take (to - k) = (all.drop k).take N by rw [show to - k = N by omega]] at hpc
                      unfold cutA at hpc
                      have hZb : ∀ b, (Value.slice oa out.length oc).ownBlock = some b → b < W.heap.size := fun b hb => (HOA.out.block b hb).2
                      have HPC := Lib.hid hpc
                      have HQ := Lib.hid hq
                      clear hcut hpc hdW hq
                      go_wp2_with fail
                      refine region_T [] (fun x => x.cell? ⟨q, 0, none⟩ = some (.int .i64 k) ∧ x.cell? ⟨q, 1, none⟩ = some (.int .i64 N)) (by kernel_rfl) ?_
                      have hC : (fun x : World => x.cell? ⟨q, 0, none⟩ = some (.int .i64 k) ∧ x.cell? ⟨q, 1, none⟩ = some (.int .i64 N)) W.drew := ⟨j0, j1⟩
                      refine anyT_take0 (i := 0) (v := ?_) rfl (by kernel_rfl) (by kernel_rfl) (by kernel_rfl) (by kernel_rfl) (by kernel_rfl) (fun _ _ _ h => h) hC (.inl ⟨by rfl, fun _ _ => ?_⟩) ?_
                      rotate_left 1
                      · go_simp
                        try with_reducible rfl
                      simp only [Act.put, List.getElem_toArray, List.getElem_cons_succ, List.getElem_cons_zero, List.setIfInBounds_toArray, List.set_cons_zero, List.set_cons_succ]
                      refine anyT_take0 (i := 1) (v := ?_) rfl (by kernel_rfl) (by kernel_rfl) (by kernel_rfl) (by kernel_rfl) (by kernel_rfl) (fun _ _ _ h => h) hC (.inl ⟨by rfl, fun _ _ => ?_⟩) ?_
                      rotate_left 1
                      · go_simp
                        try with_reducible rfl
                      simp only [Act.put, List.getElem_toArray, List.getElem_cons_succ, List.getElem_cons_zero, List.setIfInBounds_toArray, List.set_cons_zero, List.set_cons_succ]
                      refine anyT_takeC (i := 2) (v := ?_) rfl (by kernel_rfl) (by kernel_rfl) (by kernel_rfl) (by kernel_rfl) (by kernel_rfl) (by kernel_rfl) (fun _ _ _ h => h) hC (.inl ⟨by rfl, fun w hCw => ?_⟩) ?_
                      rotate_left 1
                      · dsimp only at hCw
                        go_simp
                        try with_reducible rfl
                      simp only [Act.put, List.getElem_toArray, List.getElem_cons_succ, List.getElem_cons_zero, List.setIfInBounds_toArray, List.set_cons_zero, List.set_cons_succ]
                      refine anyT_take0 (i := 3) (v := ?_) rfl (by kernel_rfl) (by kernel_rfl) (by kernel_rfl) (by kernel_rfl) (by kernel_rfl) (fun _ _ _ h => h) hC (.inl ⟨by rfl, fun _ _ => ?_⟩) ?_
                      rotate_left 1
                      · go_simp
                        try with_reducible rfl
                      simp only [Act.put, List.getElem_toArray, List.getElem_cons_succ, List.getElem_cons_zero, List.setIfInBounds_toArray, List.set_cons_zero, List.set_cons_succ]
                      refine anyT_take0 (i := 4) (v := ?_) rfl (by kernel_rfl) (by kernel_rfl) (by kernel_rfl) (by kernel_rfl) (by kernel_rfl) (fun _ _ _ h => h) hC (.inl ⟨by rfl, fun _ _ => ?_⟩) ?_
                      rotate_left 1
                      · go_simp
                        try with_reducible rfl
                      simp only [Act.put, List.getElem_toArray, List.getElem_cons_succ, List.getElem_cons_zero, List.setIfInBounds_toArray, List.set_cons_zero, List.set_cons_succ]
                      refine anyT_takeC (i := 5) (v := ?_) rfl (by kernel_rfl) (by kernel_rfl) (by kernel_rfl) (by kernel_rfl) (by kernel_rfl) (by kernel_rfl) (fun _ _ _ h => h) hC (.inl ⟨by rfl, fun w hCw => ?_⟩) ?_
                      rotate_left 1
                      · dsimp only at hCw
                        go_simp
                        try with_reducible rfl
                      simp only [Act.put, List.getElem_toArray, List.getElem_cons_succ, List.getElem_cons_zero, List.setIfInBounds_toArray, List.set_cons_zero, List.set_cons_succ]
                      refine anyT_take0 (i := 6) (v := ?_) rfl (by kernel_rfl) (by kernel_rfl) (by kernel_rfl) (by kernel_rfl) (by kernel_rfl) (fun _ _ _ h => h) hC (.inl ⟨by rfl, fun _ _ => ?_⟩) ?_
                      rotate_left 1
                      · go_simp
                        try with_reducible rfl
                      simp only [Act.put, List.getElem_toArray, List.getElem_cons_succ, List.getElem_cons_zero, List.setIfInBounds_toArray, List.set_cons_zero, List.set_cons_succ]
                      refine anyT_takeC (i := 7) (v := ?_) rfl (by kernel_rfl) (by kernel_rfl) (by kernel_rfl) (by kernel_rfl) (by kernel_rfl) (by kernel_rfl) (fun _ _ _ h => h) hC (.inl ⟨by rfl, fun w hCw => ?_⟩) ?_
                      rotate_left 1
                      · dsimp only at hCw
                        go_simp
                        try with_reducible rfl
                      simp only [Act.put, List.getElem_toArray, List.getElem_cons_succ, List.getElem_cons_zero, List.setIfInBounds_toArray, List.set_cons_zero, List.set_cons_succ]
                      refine anyT_take0 (i := 8) (v := ?_) rfl (by kernel_rfl) (by kernel_rfl) (by kernel_rfl) (by kernel_rfl) (by kernel_rfl) (fun _ _ _ h => h) hC (.inl ⟨by rfl, fun _ _ => ?_⟩) ?_
                      rotate_left 1
                      · go_simp
                        try with_reducible rfl
                      simp only [Act.put, List.getElem_toArray, List.getElem_cons_succ, List.getElem_cons_zero, List.setIfInBounds_toArray, List.set_cons_zero, List.set_cons_succ]
                      refine anyT_takeC (i := 9) (v := ?_) rfl (by kernel_rfl) (by kernel_rfl) (by kernel_rfl) (by kernel_rfl) (by kernel_rfl) (by kernel_rfl) (fun _ _ _ h => h) hC (.inl ⟨by rfl, fun w hCw => ?_⟩) ?_
                      rotate_left 1
                      · dsimp only at hCw
                        go_simp
                        try with_reducible rfl
                      simp only [Act.put, List.getElem_toArray, List.getElem_cons_succ, List.getElem_cons_zero, List.setIfInBounds_toArray, List.set_cons_zero, List.set_cons_succ]
                      refine anyT_take0 (i := 10) (v := ?_) rfl (by kernel_rfl) (by kernel_rfl) (by kernel_rfl) (by kernel_rfl) (by kernel_rfl) (fun _ _ _ h => h) hC (.inl ⟨by rfl, fun _ _ => ?_⟩) ?_
                      rotate_left 1
                      · go_simp
                        try with_reducible rfl
                      simp only [Act.put, List.getElem_toArray, List.getElem_cons_succ, List.getElem_cons_zero, List.setIfInBounds_toArray, List.set_cons_zero, List.set_cons_succ]
                      refine anyT_take0 (i := 11) (v := ?_) rfl (by kernel_rfl) (by kernel_rfl) (by kernel_rfl) (by kernel_rfl) (by kernel_rfl) (fun _ _ _ h => h) hC (.inl ⟨by rfl, fun _ _ => ?_⟩) ?_
                      rotate_left 1
                      · go_simp
                        try with_reducible rfl
                      simp only [Act.put, List.getElem_toArray, List.getElem_cons_succ, List.getElem_cons_zero, List.setIfInBounds_toArray, List.set_cons_zero, List.set_cons_succ]
                      refine anyT_force (i := 12) rfl (by kernel_rfl) (by rfl) ?_
                      go_simp
                      have hkd : Keeps (fun _ => False) W W.drew := (Keeps.refl _ _).drew
                      refine (put_s (HSA.out.keeps hkd) (fun b hb => hZb b hb) k N _ (BRd.keeps HPC.out hkd) d4' (by omega) (by omega) hb2 (by omega)).mono ?_
                      rintro e w3 ⟨n1, f, L1, bv1, pv1, rfl, hS1, hf, hn1, hcl, hk3⟩
                      have hgO : (Value.slice oa out.length oc).ownBlock ≠ some g := HOA.out.apart HSA.out.hr (by decide)
                      have hq3 := (HQ.out.keeps hkd (fun h => h)).keeps hk3 (fun e => by
                        rcases e with e | e
                        · exact HQ.out.neq HSA.out.hr (by decide) e
                        · exact HSA.out.ho.apart HQ.out (by decide) e)
                      have hO3 := (HOA.out.keeps hkd (fun _ _ h => h)).keeps hk3 (fun b hb e => by
                        rcases e with rfl | e
                        · exact hgO hb
                        · exact HSA.out.zb b e hb)
                      have hC : (fun x : World => x.cell? ⟨q, 0, none⟩ = some (.int .i64 k) ∧ x.cell? ⟨q, 1, none⟩ = some (.int .i64 N)) w3 := ⟨hq3.cell 0, hq3.cell 1⟩
                      refine ⟨fun _ => hC, ?_⟩
                      have HCL := Lib.hid hcl
                      clear hcl hk3 HPC HQ HOA hZb j0 j1
                      generalize (if dc = k then da else Option.map (fun x => x.add k) da) = da2
                      refine anyT_take0 (i := 13) (v := ?_) rfl (by kernel_rfl) (by kernel_rfl) (by kernel_rfl) (by kernel_rfl) (by kernel_rfl) (fun _ _ _ h => h) hC (.inl ⟨by rfl, fun _ _ => ?_⟩) ?_
                      rotate_left 1
                      · go_simp
                        try with_reducible rfl
                      simp only [Act.put, List.getElem_toArray, List.getElem_cons_succ, List.getElem_cons_zero, List.setIfInBounds_toArray, List.set_cons_zero, List.set_cons_succ]
                      refine anyT_take0 (i := 14) (v := ?_) rfl (by kernel_rfl) (by kernel_rfl) (by kernel_rfl) (by kernel_rfl) (by kernel_rfl) (fun _ _ _ h => h) hC (.inl ⟨by rfl, fun _ _ => ?_⟩) ?_
                      rotate_left 1
                      · go_simp
                        try with_reducible rfl
                      simp only [Act.put, List.getElem_toArray, List.getElem_cons_succ, List.getElem_cons_zero, List.setIfInBounds_toArray, List.set_cons_zero, List.set_cons_succ]
                      refine anyT_take0 (i := 15) (v := ?_) rfl (by kernel_rfl) (by kernel_rfl) (by kernel_rfl) (by kernel_rfl) (by kernel_rfl) (fun _ _ _ h => h) hC (.inl ⟨by rfl, fun _ _ => ?_⟩) ?_
                      rotate_left 1
                      · go_simp
                        try with_reducible rfl
                      simp only [Act.put, List.getElem_toArray, List.getElem_cons_succ, List.getElem_cons_zero, List.setIfInBounds_toArray, List.set_cons_zero, List.set_cons_succ]
                      refine anyT_take0 (i := 16) (v := ?_) rfl (by kernel_rfl) (by kernel_rfl) (by kernel_rfl) (by kernel_rfl) (by kernel_rfl) (fun _ _ _ h => h) hC (.inl ⟨by rfl, fun _ _ => ?_⟩) ?_
                      rotate_left 1
                      · go_simp
                        try with_reducible rfl
                      simp only [Act.put, List.getElem_toArray, List.getElem_cons_succ, List.getElem_cons_zero, List.setIfInBounds_toArray, List.set_cons_zero, List.set_cons_succ]
                      refine anyT_take0 (i := 17) (v := ?_) rfl (by kernel_rfl) (by kernel_rfl) (by kernel_rfl) (by kernel_rfl) (by kernel_rfl) (fun _ _ _ h => h) hC (.inl ⟨by rfl, fun _ _ => ?_⟩) ?_
                      rotate_left 1
                      · go_simp
                        try with_reducible rfl
                      simp only [Act.put, List.getElem_toArray, List.getElem_cons_succ, List.getElem_cons_zero, List.setIfInBounds_toArray, List.set_cons_zero, List.set_cons_succ]
                      refine (show anyT _ _ _ _ _ _ 0 _ _ _ from ⟨by kernel_rfl, ?_⟩)
                      have j2 : w3.cell? ⟨q, 2, none⟩ = some (.int .i64 rd) := hq3.cell 2
                      clear hC
                      have HQ3 := Lib.hid hq3
                      have HO3 := Lib.hid hO3
                      clear hq3 hO3
                      rcases hf with rfl | ⟨rfl, rfl⟩
                      · as_aux_lemma =>
                          have hE1 : out ++ (l ++ (all.drop next).take n1) = all.take (next + n1) := by rw [← List.append_assoc, HE.out, List.take_add]
                          obtain ⟨LL, hLL⟩ : ∃ LL, l ++ (all.drop next).take n1 = LL := ⟨_, rfl⟩
                          rw [hLL] at hS1 hE1
                          have HS1 := Lib.hid hS1
                          have HE1 := Lib.hid hE1
                          have hnx1 := hS1.nx
                          clear hS1 hE1 hLL
                          have hnc := next_s HS1.out
                          rw [Int.natCast_add] at hnc
                          have HNC := Lib.hid hnc
                          clear hnc
                          have hol1 : out.length + LL.length = (next + n1) := by
                            have := congrArg List.length HE1.out
                            rw [List.length_append, List.length_take] at this
                            omega
                          have hd5' : 0 ≤ rd := by have := HRD.out; omega
                          obtain ⟨m, hm⟩ : ∃ m : Nat, (m : Int) = if (LL.length : Int) < rd then (LL.length : Int) else rd := ⟨(if (LL.length : Int) < rd then (LL.length : Int) else rd).toNat, by split <;> omega⟩
                          have hml : m ≤ LL.length := by split at hm <;> omega
                          have HRD1 := Lib.hid (read_s HS1.out rd m (by omega) hd5' hm)
                          obtain ⟨T, hT⟩ : ∃ T, LL.take m = T := ⟨_, rfl⟩
                          obtain ⟨L2, hL2⟩ : ∃ L2, LL.drop m = L2 := ⟨_, rfl⟩
                          have hTL : T.length + L2.length = LL.length := by rw [← hT, ← hL2, List.length_take, List.length_drop]; omega
                          rw [hT, hL2] at HRD1
                          have hE2 : (out ++ T) ++ L2 = all.take (next + n1) := by rw [List.append_assoc, ← hT, ← hL2, List.take_append_drop]; exact HE1.out
                          have q5 := i64_fit ((next : Int) + (n1 : Int)) (by omega) (by omega)
                          clear hm hT hL2
                          go_wp2_with fail
                          refine HNC.out.mono ?_
                          rintro e w4 ⟨rfl, rfl⟩
                          go_wp2_with fail
                          refine HRD1.out.mono ?_
                          rintro e w5 ⟨v5, bv5, rfl, hv5, hS5, hk5⟩
                          have hgO1 : (Value.slice oa out.length oc).ownBlock ≠ some g := HO3.out.apart HS1.out.hr (by decide)
                          have hO5 := HO3.out.keeps hk5 (fun b hb e => by
                            rcases e with rfl | e
                            · exact hgO1 hb
                            · exact HS1.out.zb b e hb)
                          have hq5 := HQ3.out.keeps hk5 (fun e => by
                            rcases e with e | e
                            · exact HQ3.out.neq HS1.out.hr (by decide) e
                            · exact HS1.out.ho.apart HQ3.out (by decide) e)
                          obtain ⟨a5, c5, rfl, -, -⟩ := BOwn.slice hv5
                          obtain ⟨v6, w6, hrun, hO6, hk6, hp6⟩ := run_append_bytes (ty := 30) hO5 hv5.bat (by omega) hS5.hk.size
                          have hS6 := hS5.other (Z' := fun b => v6.ownBlock = some b) hk6 (hO5.apart hS5.hr (by decide)) (fun b hb => (hO5.block b hb).1) (fun b hb => by
                            rcases hp6 with h | ⟨b', h, h'⟩
                            · exact .inl (h ▸ hb)
                            · rw [h] at hb
                              have : b' = b := Option.some.inj hb
                              exact .inr (by omega))
                          have hq6 := hq5.keeps hk6 (hO5.apart hq5 (by decide))
                          obtain ⟨O, hO⟩ : ∃ O, out ++ T = O := ⟨_, rfl⟩
                          have hOl : O.length = out.length + T.length := by rw [← hO, List.length_append]
                          rw [hO] at hO6 hE2
                          clear hO
                          obtain ⟨a6, c6, rfl, -, -⟩ := BOwn.slice hO6
                          have hOn : O.length ≤ (next + n1) := by omega
                          have HOL := Lib.hid hOl
                          have hOA : all.take O.length = O := by
                            have := congrArg (List.take O.length) hE2
                            rw [List.take_left, List.take_take, Nat.min_eq_left hOn] at this
                            exact this.symm
                          have tO := fun mm => (BAt.keeps hO6.bat ((Keeps.refl (fun _ => False) w6).drewN mm) (fun _ _ h => h)).text
                          have tA := fun mm => (BAt.keeps (BAt.take (HA.out.keeps hS6.hk) O.length (by omega)) ((Keeps.refl (fun _ => False) w6).drewN mm) (fun _ _ h => h)).text
                          rw [hOA] at tA
                          have HN6 := Lib.hid (fun mm => next_s (hS6.keeps ((Keeps.refl (fun _ => False) w6).drewN mm)))
                          have HR6 := fun mm => room_s (hS6.keeps ((Keeps.refl (fun _ => False) w6).drewN mm)) (by omega) hb2 (by omega)
                          rw [show room - (L2.length : Int) = room - (((next : Int) + (n1 : Int)) - (O.length : Int)) by omega] at HR6
                          have HRM := Lib.hid HR6
                          have t1 : ¬ ((next : Int) + (n1 : Int)) < (O.length : Int) := by omega
                          have t2 : ¬ (all.length : Int) < ((next : Int) + (n1 : Int)) := by omega
                          have q6 := i64_fit (((next : Int) + (n1 : Int)) - (O.length : Int)) (by omega) (by omega)
                          have q7 := i64_fit (room - (((next : Int) + (n1 : Int)) - (O.length : Int))) (by omega) (by omega)
                          have hOa : (O.length : Int) ≤ (dc : Int) := by omega
                          clear hOl
                          have HRUN := Lib.hid hrun
                          have HS6 := Lib.hid hS6
                          have HO6 := Lib.hid hO6
                          have HQ6 := Lib.hid hq6
                          have HE2 := Lib.hid hE2
                          clear hrun hS6 hO6 hq6 hE2 HR6 hp6 hk6 hq5 hO5 hv5 hS5 hk5 HRD1 HNC HS1 HE1 HQ3 HO3 hOA j2 hgO1
                          go_wp2_with (at_builtin; refine Lib.wpList_append_run _ rfl _ _ _ _ rfl _ _ rfl rfl _ _ HRUN.out ?_)
                          go_quiet (first | (with_reducible exact quiet_same (HN6.out _)) | (with_reducible exact Calls.quiet_of (HRM.out _)))
                          have j0 : (w6.drewN nq).cell? ⟨q, 0, none⟩ = some (.int .i64 k) := (HQ6.out.drewN nq).cell 0
                          have j1 : (w6.drewN nq).cell? ⟨q, 1, none⟩ = some (.int .i64 N) := (HQ6.out.drewN nq).cell 1
                          have q8 := i64_fit ((next : Int) - (O.length : Int)) (by have := HOL.out; omega) (by have := HOL.out; omega)
                          have q9 := i64_fit (room - (T.length : Int)) (by have := HOL.out; omega) (by have := HOL.out; omega)
                          clear tO tA t1 t2 q5 q6 q7 HRM HN6 HRUN
                          by_cases e1 : (k : Int) ≤ (next : Int)
                          · by_cases e2 : (next : Int) < (to : Int)
                            · by_cases e3 : n1 = 0
                              · have e6 : ¬ (next : Int) - (O.length : Int) < room - (T.length : Int) := fun h => HCL.out (by omega) (by omega) (by have := HOL.out; omega) (by first | rfl | trivial) e3
                                subst e3
                                as_aux_lemma =>
                                  go_wp2_with fail
                                  go_roundw
                                  case rel => exact ⟨i + 1, (next + 0), L2, L1, bv5, pv1, O, by omega, by go_num, HO6.out.keeps ((Keeps.refl (fun _ => False) w6).drewN nq) (fun _ _ h => h), HS6.out.keeps ((Keeps.refl (fun _ => False) w6).drewN nq), HE2.out⟩
                                  case measure => simp [intOf]; omega
                              · have e3' : ¬ (n1 : Int) = 0 := by omega
                                have e3'' : ((n1 : Int) == 0) = false := beq_eq_false_iff_ne.2 e3'
                                as_aux_lemma =>
                                  go_wp2_with fail
                                  go_roundw
                                  case rel => exact ⟨i + 1, (next + n1), L2, L1, bv5, pv1, O, by omega, by go_num, HO6.out.keeps ((Keeps.refl (fun _ => False) w6).drewN nq) (fun _ _ h => h), HS6.out.keeps ((Keeps.refl (fun _ => False) w6).drewN nq), HE2.out⟩
                                  case measure => simp [intOf]; omega
                            · as_aux_lemma =>
                                go_wp2_with fail
                                go_roundw
                                case rel => exact ⟨i + 1, (next + n1), L2, L1, bv5, pv1, O, by omega, by go_num, HO6.out.keeps ((Keeps.refl (fun _ => False) w6).drewN nq) (fun _ _ h => h), HS6.out.keeps ((Keeps.refl (fun _ => False) w6).drewN nq), HE2.out⟩
                                case measure => simp [intOf]; omega
                          · as_aux_lemma =>
                              go_wp2_with fail
                              go_roundw
                              case rel => exact ⟨i + 1, (next + n1), L2, L1, bv5, pv1, O, by omega, by go_num, HO6.out.keeps ((Keeps.refl (fun _ => False) w6).drewN nq) (fun _ _ h => h), HS6.out.keeps ((Keeps.refl (fun _ => False) w6).drewN nq), HE2.out⟩
                              case measure => simp [intOf]; omega
                      · as_aux_lemma =>
                          rw [Nat.add_zero, List.take_zero, List.append_nil] at hS1
                          obtain ⟨LL, hLL⟩ : ∃ LL, l = LL := ⟨_, rfl⟩
                          have hE1 := HE.out
                          rw [hLL] at hS1 hE1
                          have HS1 := Lib.hid hS1
                          have HE1 := Lib.hid hE1
                          have hnx1 := hS1.nx
                          clear hS1 hE1
                          have hnc := next_s HS1.out
                          clear hLL
                          have HNC := Lib.hid hnc
                          clear hnc
                          have hol1 : out.length + LL.length = next := by
                            have := congrArg List.length HE1.out
                            rw [List.length_append, List.length_take] at this
                            omega
                          have hd5' : 0 ≤ rd := by have := HRD.out; omega
                          obtain ⟨m, hm⟩ : ∃ m : Nat, (m : Int) = if (LL.length : Int) < rd then (LL.length : Int) else rd := ⟨(if (LL.length : Int) < rd then (LL.length : Int) else rd).toNat, by split <;> omega⟩
                          have hml : m ≤ LL.length := by split at hm <;> omega
                          have HRD1 := Lib.hid (read_s HS1.out rd m (by omega) hd5' hm)
                          obtain ⟨T, hT⟩ : ∃ T, LL.take m = T := ⟨_, rfl⟩
                          obtain ⟨L2, hL2⟩ : ∃ L2, LL.drop m = L2 := ⟨_, rfl⟩
                          have hTL : T.length + L2.length = LL.length := by rw [← hT, ← hL2, List.length_take, List.length_drop]; omega
                          rw [hT, hL2] at HRD1
                          have hE2 : (out ++ T) ++ L2 = all.take next := by rw [List.append_assoc, ← hT, ← hL2, List.take_append_drop]; exact HE1.out
                          have q5 := i64_fit (next : Int) (by omega) (by omega)
                          clear hm hT hL2
                          go_wp2_with fail
                          refine HNC.out.mono ?_
                          rintro e w4 ⟨rfl, rfl⟩
                          go_wp2_with fail
                          refine HRD1.out.mono ?_
                          rintro e w5 ⟨v5, bv5, rfl, hv5, hS5, hk5⟩
                          have hgO1 : (Value.slice oa out.length oc).ownBlock ≠ some g := HO3.out.apart HS1.out.hr (by decide)
                          have hO5 := HO3.out.keeps hk5 (fun b hb e => by
                            rcases e with rfl | e
                            · exact hgO1 hb
                            · exact HS1.out.zb b e hb)
                          have hq5 := HQ3.out.keeps hk5 (fun e => by
                            rcases e with e | e
                            · exact HQ3.out.neq HS1.out.hr (by decide) e
                            · exact HS1.out.ho.apart HQ3.out (by decide) e)
                          obtain ⟨a5, c5, rfl, -, -⟩ := BOwn.slice hv5
                          obtain ⟨v6, w6, hrun, hO6, hk6, hp6⟩ := run_append_bytes (ty := 30) hO5 hv5.bat (by omega) hS5.hk.size
                          have hS6 := hS5.other (Z' := fun b => v6.ownBlock = some b) hk6 (hO5.apart hS5.hr (by decide)) (fun b hb => (hO5.block b hb).1) (fun b hb => by
                            rcases hp6 with h | ⟨b', h, h'⟩
                            · exact .inl (h ▸ hb)
                            · rw [h] at hb
                              have : b' = b := Option.some.inj hb
                              exact .inr (by omega))
                          have hq6 := hq5.keeps hk6 (hO5.apart hq5 (by decide))
                          obtain ⟨O, hO⟩ : ∃ O, out ++ T = O := ⟨_, rfl⟩
                          have hOl : O.length = out.length + T.length := by rw [← hO, List.length_append]
                          rw [hO] at hO6 hE2
                          clear hO
                          obtain ⟨a6, c6, rfl, -, -⟩ := BOwn.slice hO6
                          have hOn : O.length ≤ next := by omega
                          have HOL := Lib.hid hOl
                          have hOA : all.take O.length = O := by
                            have := congrArg (List.take O.length) hE2
                            rw [List.take_left, List.take_take, Nat.min_eq_left hOn] at this
                            exact this.symm
                          have tO := fun mm => (BAt.keeps hO6.bat ((Keeps.refl (fun _ => False) w6).drewN mm) (fun _ _ h => h)).text
                          have tA := fun mm => (BAt.keeps (BAt.take (HA.out.keeps hS6.hk) O.length (by omega)) ((Keeps.refl (fun _ => False) w6).drewN mm) (fun _ _ h => h)).text
                          rw [hOA] at tA
                          have HN6 := Lib.hid (fun mm => next_s (hS6.keeps ((Keeps.refl (fun _ => False) w6).drewN mm)))
                          have HR6 := fun mm => room_s (hS6.keeps ((Keeps.refl (fun _ => False) w6).drewN mm)) (by omega) hb2 (by omega)
                          rw [show room - (L2.length : Int) = room - ((next : Int) - (O.length : Int)) by omega] at HR6
                          have HRM := Lib.hid HR6
                          have t1 : ¬ (next : Int) < (O.length : Int) := by omega
                          have t2 : ¬ (all.length : Int) < (next : Int) := by omega
                          have q6 := i64_fit ((next : Int) - (O.length : Int)) (by omega) (by omega)
                          have q7 := i64_fit (room - ((next : Int) - (O.length : Int))) (by omega) (by omega)
                          have hOa : (O.length : Int) ≤ (dc : Int) := by omega
                          clear hOl
                          have HRUN := Lib.hid hrun
                          have HS6 := Lib.hid hS6
                          have HO6 := Lib.hid hO6
                          have HQ6 := Lib.hid hq6
                          have HE2 := Lib.hid hE2
                          clear hrun hS6 hO6 hq6 hE2 HR6 hp6 hk6 hq5 hO5 hv5 hS5 hk5 HRD1 HNC HS1 HE1 HQ3 HO3 hOA j2 hgO1
                          go_wp2_with (at_builtin; refine Lib.wpList_append_run _ rfl _ _ _ _ rfl _ _ rfl rfl _ _ HRUN.out ?_)
                          go_quiet (first | (with_reducible exact quiet_same (HN6.out _)) | (with_reducible exact Calls.quiet_of (HRM.out _)))
                          have j0 : (w6.drewN nq).cell? ⟨q, 0, none⟩ = some (.int .i64 k) := (HQ6.out.drewN nq).cell 0
                          have j1 : (w6.drewN nq).cell? ⟨q, 1, none⟩ = some (.int .i64 N) := (HQ6.out.drewN nq).cell 1
                          have q8 := i64_fit ((next : Int) - (O.length : Int)) (by have := HOL.out; omega) (by have := HOL.out; omega)
                          have q9 := i64_fit (room - (T.length : Int)) (by have := HOL.out; omega) (by have := HOL.out; omega)
                          clear tO tA t1 t2 q5 q6 q7 HRM HN6 HRUN
                          by_cases e1 : (k : Int) ≤ (next : Int)
                          · by_cases e2 : (next : Int) < (to : Int)
                            · as_aux_lemma =>
                                go_wp2_with fail
                                go_roundw
                                case rel => exact ⟨i + 1, next, L2, L1, bv5, pv1, O, by omega, by go_num, HO6.out.keeps ((Keeps.refl (fun _ => False) w6).drewN nq) (fun _ _ h => h), HS6.out.keeps ((Keeps.refl (fun _ => False) w6).drewN nq), HE2.out⟩
                                case measure => simp [intOf]; omega
                            · as_aux_lemma =>
                                go_wp2_with fail
                                go_roundw
                                case rel => exact ⟨i + 1, next, L2, L1, bv5, pv1, O, by omega, by go_num, HO6.out.keeps ((Keeps.refl (fun _ => False) w6).drewN nq) (fun _ _ h => h), HS6.out.keeps ((Keeps.refl (fun _ => False) w6).drewN nq), HE2.out⟩
                                case measure => simp [intOf]; omega
                          · as_aux_lemma =>
                              go_wp2_with fail
                              go_roundw
                              case rel => exact ⟨i + 1, next, L2, L1, bv5, pv1, O, by omega, by go_num, HO6.out.keeps ((Keeps.refl (fun _ => False) w6).drewN nq) (fun _ _ h => h), HS6.out.keeps ((Keeps.refl (fun _ => False) w6).drewN nq), HE2.out⟩
                              case measure => simp [intOf]; omega
          · obtain rfl : i = L.length := by omega
            as_aux_lemma =>
              go_wp2_with (go_at_call 10; refine (awake_any _).mono ?_; rintro e w9 ⟨rfl, hk9⟩)
              go_ret
              exact ⟨rfl, (HS.out.hk).trans hk9 (fun _ _ h => h)⟩

theorem lprefix_row (dv : Value) (all : List UInt8) (room : Int) (rv : Value) (L : List TriV) (w : World) (hA : BRd w dv all) (_ : (Lit.int .i64 room).wf = true) (hR : TriRd w rv L) :
    Calls Try.prog 4 #[dv, .int .i64 room, rv] w fun e w' => e = .returned (.bool true) ∧ Keeps (fun _ => False) w w' := lprefix_any dv rv all room L w hA hR
end Go.Proofs.Ytiodmhcmciohnaa
