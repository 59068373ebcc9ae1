/- Words, walks and plain laws that the claim leans on, part 19. -/
import Derived.Test.YtngpbihnmgjniaaDoorM14
import Derived.Test.YtngpbihnmgjniaaDoorM16
import Derived.Test.YtngpbihnmgjniaaDoorM18

/-! split.Split: a packet in pieces. -/
namespace Go.Proofs.YtngpbihnmgjniaaDoor
set_option linter.unusedVariables false
set_option linter.unusedSimpArgs false
open Go.RowKit

def outOf : Option (List P4) → Int × List P4
  | none => (2, [])
  | some L => (0, L)
def splitR (p : P4) (mtu : Int) : Int × List P4 :=
  if checkE p ≠ 0 then (checkE p, []) else if mtu < 68 then (1, []) else if ((20 + p.opt.length + p.data.length : Nat) : Int) ≤ mtu then (0, [p]) else if p.df then (181, [])
  else if (optF p.opt).2 ≠ 0 then ((optF p.opt).2, []) else outOf (piecesF (p.data.length + 1) p mtu.toNat (laterO p.opt))

def Splits (p : P4) (mtu : Int) (w : World) (e : Ending) (w' : World) : Prop :=
  ∃ v, e = .returned (.tuple #[v, .int .i64 (splitR p mtu).1]) ∧ PRd w' v (splitR p mtu).2 ∧ Keeps (fun _ => False) w w'

set_option maxRecDepth 100000 in
set_option maxHeartbeats 4000000 in
theorem split_any (p : P4) (dv : Value) (mtu : Int) (w : World) (hg : ErrT w) (hd : BRd w dv p.data) (ho : p.opt.length ≤ 1000) (hdl : p.data.length ≤ 10000) (hm1 : -9223372036854775808 ≤ mtu) (hm2 : mtu ≤ 9223372036854775807) :
    Calls Tryd.prog 7 #[.agg (p4cells p dv), .int .i64 mtu] w (Splits p mtu w) := by
  by_cases hE : checkE p = 0
  case neg =>
    have e : splitR p mtu = (checkE p, []) := by unfold splitR; rw [if_pos hE]
    unfold Splits
    rw [e]
    obtain ⟨E, hEe⟩ : ∃ E, checkE p = E := ⟨_, rfl⟩
    have hk0 := (Keeps.refl (fun _ => False) w).alloc (.cells (p4cells p dv) 24)
    have hr0 := RowAt.new w (p4cells p dv) 24
    have hchk := pcheck_any p dv _ (hg.keeps hk0) (hd.keeps hk0) (by omega) (by omega)
    have hg0 := hg.keeps hk0
    obtain ⟨da, dc, rfl, hdc, hdm⟩ := hd.slice
    obtain ⟨tos, id, ttl, proto, df, mf, off, src, dst, opt, data⟩ := p
    obtain ⟨q, hq⟩ : ∃ q, w.heap.size = q := ⟨_, rfl⟩
    rw [hq] at hr0
    rw [hEe] at hE hchk ⊢
    clear e hEe
    simp only at hchk ho hdl hdc
    unfold p4cells txt at hk0 hchk ⊢
    simp only at hk0 hchk ⊢
    go_enter Tryd.func7, Tryd.ntmps7
    go_wp2_with (refine hchk.mono ?_; rintro e w2 ⟨rfl, hk2⟩)
    go_ret2
    exact ⟨_, rfl, PRd.nil _, hk0.trans hk2 (fun _ _ h => h)⟩
  case pos =>
    by_cases h68 : mtu < 68
    · have e : splitR p mtu = (1, []) := by unfold splitR; rw [if_neg (by simpa using hE), if_pos h68]
      unfold Splits
      rw [e]
      have hk0 := (Keeps.refl (fun _ => False) w).alloc (.cells (p4cells p dv) 24)
      have hr0 := RowAt.new w (p4cells p dv) 24
      have hchk := pcheck_any p dv _ (hg.keeps hk0) (hd.keeps hk0) (by omega) (by omega)
      have hg0 := hg.keeps hk0
      obtain ⟨da, dc, rfl, hdc, hdm⟩ := hd.slice
      obtain ⟨tos, id, ttl, proto, df, mf, off, src, dst, opt, data⟩ := p
      obtain ⟨q, hq⟩ : ∃ q, w.heap.size = q := ⟨_, rfl⟩
      rw [hq] at hr0
      rw [hE] at hchk
      clear e hE
      simp only at hchk ho hdl hdc
      unfold p4cells txt at hk0 hchk ⊢
      simp only at hk0 hchk ⊢
      go_enter Tryd.func7, Tryd.ntmps7
      go_wp2_with (refine hchk.mono ?_; rintro e w2 ⟨rfl, hk2⟩)
      go_ret2
      exact ⟨_, rfl, PRd.nil _, hk0.trans hk2 (fun _ _ h => h)⟩
    · by_cases hfit : ((20 + p.opt.length + p.data.length : Nat) : Int) ≤ mtu
      · have e : splitR p mtu = (0, [p]) := by unfold splitR; rw [if_neg (by simpa using hE), if_neg h68, if_pos hfit]
        unfold Splits
        rw [e]
        have hcl := fun W hk => clone_any dv p.data W _ (hd.keeps hk) (by omega)
        have q1 : IntKind.i64.wrap (20 + (p.opt.length : Int)) = 20 + (p.opt.length : Int) := i64_fit _ (by omega) (by omega)
        have q2 : IntKind.i64.wrap (20 + (p.opt.length : Int) + (p.data.length : Int)) = ((20 + p.opt.length + p.data.length : Nat) : Int) := by rw [i64_fit _ (by omega) (by omega)]; omega
        obtain ⟨T, hT⟩ : ∃ T, 20 + p.opt.length + p.data.length = T := ⟨_, rfl⟩
        rw [hT] at q2 hfit
        have hk0 := (Keeps.refl (fun _ => False) w).alloc (.cells (p4cells p dv) 24)
        have hr0 := RowAt.new w (p4cells p dv) 24
        have hchk := pcheck_any p dv _ (hg.keeps hk0) (hd.keeps hk0) (by omega) (by omega)
        have hg0 := hg.keeps hk0
        obtain ⟨da, dc, rfl, hdc, hdm⟩ := hd.slice
        obtain ⟨tos, id, ttl, proto, df, mf, off, src, dst, opt, data⟩ := p
        obtain ⟨q, hq⟩ : ∃ q, w.heap.size = q := ⟨_, rfl⟩
        rw [hq] at hr0
        rw [hE] at hchk
        clear e hE
        simp only at hchk ho hdl hdc q1 q2 hT hcl
        have HT := Lib.hid hT
        clear hT
        unfold p4cells txt at hk0 hchk
        simp only at hk0 hchk
        unfold p4cells txt
        simp only
        have h68' : 68 ≤ mtu := by omega
        clear h68
        go_enter Tryd.func7, Tryd.ntmps7
        go_wp2_with fail
        refine hchk.mono ?_
        rintro e w2 ⟨rfl, hk2⟩
        have hkA := hk0.trans hk2 (fun _ _ h => h)
        have hr2 := hr0.keeps hk2 (fun h => h)
        clear hr0 hchk
        obtain ⟨c0, c1, c2, c3, c4, c5, c6, c7, c8, c9, c10⟩ := hr2.p4
        simp only at c0 c1 c2 c3 c4 c5 c6 c7 c8 c9 c10
        go_wp2_with fail
        refine (hcl w2 hkA).mono ?_
        rintro e w3 ⟨v3, rfl, ho3, hk3⟩
        obtain ⟨a3, z3, rfl, hz3, -⟩ := BOwn.slice ho3
        have hr3 := hr2.keeps hk3 (fun h => h)
        have hkB := hkA.trans hk3 (fun _ _ h => h)
        have hB3 : BRd w3 (.slice a3 data.length z3) data := ho3.bat.low
        have hgq : ∀ b, (Value.slice a3 data.length z3).ownBlock = some b → b ≠ q := fun b hb e => by have := (ho3.block b hb).1; have := hr2.lt; omega
        have hB4 : BAt w3 (fun b => b ≠ q) (.slice a3 data.length z3) data := ho3.bat.mono fun b hb => hgq b hb
        clear c0 c1 c2 c3 c4 c5 c6 c7 c8 c9 c10 hr2 ho3 hk3 hkA
        obtain ⟨c0, c1, c2, c3, c4, c5, c6, c7, c8, c9, c10⟩ := hr3.p4
        simp only at c0 c1 c2 c3 c4 c5 c6 c7 c8 c9 c10
        have fz10 := hr3.frozen 10
        have hk34 := (Keeps.refl (· = q) w3).setCell ⟨q, 10, none⟩ (.slice a3 data.length z3) (.inl rfl)
        have hB5 := hB4.keeps hk34 (fun b hb e => hb e)
        have hkC := hkB.from hk34 (fun b e => by omega)
        have hWs : (w3.setCell ⟨q, 10, none⟩ (.slice a3 data.length z3)).heap.size = w3.heap.size := by simp [World.setCell]
        have hone := PRd.one (p := ⟨tos, id, ttl, proto, df, mf, off, src, dst, opt, data⟩) (T := 24) (BAt.low hB5)
        have hkD := hkC.alloc (.cells (p4cells ⟨tos, id, ttl, proto, df, mf, off, src, dst, opt, data⟩ (.slice a3 data.length z3)) 24)
        rw [hWs] at hone
        clear hB3 hB4 hB5 hk34 hkC hWs hgq hr3 hkB
        go_wp2
        go_ret2
        exact ⟨_, rfl, hone, hkD⟩
      · obtain ⟨T, hT⟩ : ∃ T, 20 + p.opt.length + p.data.length = T := ⟨_, rfl⟩
        have q1 : IntKind.i64.wrap (20 + (p.opt.length : Int)) = 20 + (p.opt.length : Int) := i64_fit _ (by omega) (by omega)
        have q2 : IntKind.i64.wrap (20 + (p.opt.length : Int) + (p.data.length : Int)) = (T : Int) := by rw [i64_fit _ (by omega) (by omega)]; omega
        have h68' : 68 ≤ mtu := by omega
        have hfit' : mtu < (T : Int) := by omega
        by_cases hdf : p.df = true
        · have e : splitR p mtu = (181, []) := by unfold splitR; rw [if_neg (by simpa using hE), if_neg h68, if_neg hfit, if_pos hdf]
          unfold Splits
          rw [e]
          have hk0 := (Keeps.refl (fun _ => False) w).alloc (.cells (p4cells p dv) 24)
          have hr0 := RowAt.new w (p4cells p dv) 24
          have hchk := pcheck_any p dv _ (hg.keeps hk0) (hd.keeps hk0) (by omega) (by omega)
          have hg0 := hg.keeps hk0
          obtain ⟨da, dc, rfl, hdc, hdm⟩ := hd.slice
          obtain ⟨tos, id, ttl, proto, df, mf, off, src, dst, opt, data⟩ := p
          obtain ⟨q, hq⟩ : ∃ q, w.heap.size = q := ⟨_, rfl⟩
          rw [hq] at hr0
          rw [hE] at hchk
          clear e hE hT hfit h68
          simp only at hchk ho hdl hdc q1 q2 hdf
          subst hdf
          unfold p4cells txt at hk0 hchk ⊢
          simp only at hk0 hchk ⊢
          go_enter Tryd.func7, Tryd.ntmps7
          go_wp2_with (refine hchk.mono ?_; rintro e w2 ⟨rfl, hk2⟩; have hr2 := hr0.keeps hk2 (fun h => h); obtain ⟨c0, c1, c2, c3, c4, c5, c6, c7, c8, c9, c10⟩ := hr2.p4; simp only at c0 c1 c2 c3 c4 c5 c6 c7 c8 c9 c10)
          go_ret2
          exact ⟨_, rfl, PRd.nil _, hk0.trans hk2 (fun _ _ h => h)⟩
        · have hdf' : p.df = false := by simpa using hdf
          have hlat := fun W => later_any p.opt W (by omega)
          obtain ⟨⟨a1, a2⟩, ⟨b1, b2⟩, ⟨c1, c2⟩, ⟨d1, d2⟩, ⟨e1, e2⟩, h8, h4, h4', h40, h40', hall⟩ := check_facts p hE
          obtain ⟨F, hF⟩ : ∃ F, (optF p.opt).2 = F := ⟨_, rfl⟩
          obtain ⟨LA, hLA⟩ : ∃ LA, laterO p.opt = LA := ⟨_, rfl⟩
          obtain ⟨m, rfl⟩ : ∃ m : Nat, mtu = m := ⟨mtu.toNat, by omega⟩
          rw [hF, hLA] at hlat
          by_cases hF0 : F = 0
          · subst hF0
            have hlal : LA.length ≤ 40 := by
              rw [← hLA]
              unfold laterO
              unfold optF at hF
              split at hF
              next L hL =>
                rw [hL]
                exact Nat.le_trans (laterP_le _ _ hL h40) h40'
              next hL => cases hF
            obtain ⟨o, hO⟩ : ∃ o, piecesF (p.data.length + 1) p m LA = o := ⟨_, rfl⟩
            have e : splitR p m = outOf o := by
              unfold splitR; rw [if_neg (by simpa using hE), if_neg h68, if_neg hfit, if_neg hdf, hF, if_neg (by simp), hLA, Int.toNat_natCast, hO]
            unfold Splits
            rw [e]
            have hpi := fun W hk => pieces_any m (by omega) (by omega) LA hlal w.heap.size (p.data.length + 1) p dv (.slice none 0 0) [] W (by omega) h40' (by omega) (by omega) (Keeps.size hk) (BAt.keeps hd hk (fun _ _ h => h)) (POwn.nil _ _) (by simp only [List.length_nil]; omega)
            have HPI := Lib.hid hpi
            have HLAT := Lib.hid hlat
            clear hpi hlat a1 a2 b1 b2 c1 c2 d1 d2 e1 e2 h8 h4 h4' h40 h40' hall hLA hdf
            clear e
            have e := True.intro
            have hk0 := (Keeps.refl (fun _ => False) w).alloc (.cells (p4cells p dv) 24)
            have hr0 := RowAt.new w (p4cells p dv) 24
            have hchk := pcheck_any p dv _ (hg.keeps hk0) (hd.keeps hk0) (by omega) (by omega)
            have hg0 := hg.keeps hk0
            obtain ⟨da, dc, rfl, hdc, hdm⟩ := hd.slice
            obtain ⟨tos, id, ttl, proto, df, mf, off, src, dst, opt, data⟩ := p
            obtain ⟨q, hq⟩ : ∃ q, w.heap.size = q := ⟨_, rfl⟩
            rw [hq] at hr0
            rw [hE] at hchk
            clear e hE hT hfit h68 hF
            simp only at hchk ho hdl hdc q1 q2 hdf' HPI
            subst hdf'
            unfold p4cells txt at hk0 hchk ⊢
            simp only at hk0 hchk ⊢
            go_enter Tryd.func7, Tryd.ntmps7
            go_wp2_with fail
            refine hchk.mono ?_
            rintro e w2 ⟨rfl, hk2⟩
            have hr2 := hr0.keeps hk2 (fun h => h)
            have hkA := hk0.trans hk2 (fun _ _ h => h)
            obtain ⟨c0, c1, c2, c3, c4, c5, c6, c7, c8, c9, c10⟩ := hr2.p4
            simp only at c0 c1 c2 c3 c4 c5 c6 c7 c8 c9 c10
            go_wp2_with fail
            refine (HLAT.out _).mono ?_
            rintro e w3 ⟨rfl, hk3⟩
            have hr3 := hr2.keeps hk3 (fun h => h)
            have hkB := hkA.trans hk3 (fun _ _ h => h)
            clear c0 c1 c2 c3 c4 c5 c6 c7 c8 c9 c10 hr2
            obtain ⟨c0, c1, c2, c3, c4, c5, c6, c7, c8, c9, c10⟩ := hr3.p4
            simp only at c0 c1 c2 c3 c4 c5 c6 c7 c8 c9 c10
            rw [hO] at HPI
            cases o with
            | none =>
              go_wp2_with (refine (HPI.out _ hkB).mono ?_; rintro e w4 ⟨hk4, rfl⟩)
              go_ret2
              exact ⟨_, rfl, PRd.nil _, hkB.trans hk4 (fun _ _ h => by simp [Value.ownBlock] at h)⟩
            | some L =>
              go_wp2_with (refine (HPI.out _ hkB).mono ?_; rintro e w4 ⟨hk4, v4, qs4, rfl, hm4, ho4⟩)
              go_ret2
              have hrd := ho4.reads
              rw [hm4] at hrd
              exact ⟨_, rfl, hrd, hkB.trans hk4 (fun _ _ h => by simp [Value.ownBlock] at h)⟩
          · have e : splitR p m = (F, []) := by
              unfold splitR; rw [if_neg (by simpa using hE), if_neg h68, if_neg hfit, if_neg hdf, hF, if_pos hF0]
            unfold Splits
            rw [e]
            have HPI := Lib.hid True.intro
            have HLAT := Lib.hid hlat
            clear hlat a1 a2 b1 b2 c1 c2 d1 d2 e1 e2 h8 h4 h4' h40 h40' hall hLA hdf
            have hO := True.intro
            have hk0 := (Keeps.refl (fun _ => False) w).alloc (.cells (p4cells p dv) 24)
            have hr0 := RowAt.new w (p4cells p dv) 24
            have hchk := pcheck_any p dv _ (hg.keeps hk0) (hd.keeps hk0) (by omega) (by omega)
            have hg0 := hg.keeps hk0
            obtain ⟨da, dc, rfl, hdc, hdm⟩ := hd.slice
            obtain ⟨tos, id, ttl, proto, df, mf, off, src, dst, opt, data⟩ := p
            obtain ⟨q, hq⟩ : ∃ q, w.heap.size = q := ⟨_, rfl⟩
            rw [hq] at hr0
            rw [hE] at hchk
            clear e hE hT hfit h68 hO hF
            simp only at hchk ho hdl hdc q1 q2 hdf' HPI
            subst hdf'
            unfold p4cells txt at hk0 hchk ⊢
            simp only at hk0 hchk ⊢
            go_enter Tryd.func7, Tryd.ntmps7
            go_wp2_with fail
            refine hchk.mono ?_
            rintro e w2 ⟨rfl, hk2⟩
            have hr2 := hr0.keeps hk2 (fun h => h)
            have hkA := hk0.trans hk2 (fun _ _ h => h)
            obtain ⟨c0, c1, c2, c3, c4, c5, c6, c7, c8, c9, c10⟩ := hr2.p4
            simp only at c0 c1 c2 c3 c4 c5 c6 c7 c8 c9 c10
            go_wp2_with fail
            refine (HLAT.out _).mono ?_
            rintro e w3 ⟨rfl, hk3⟩
            have hr3 := hr2.keeps hk3 (fun h => h)
            have hkB := hkA.trans hk3 (fun _ _ h => h)
            clear c0 c1 c2 c3 c4 c5 c6 c7 c8 c9 c10 hr2
            obtain ⟨c0, c1, c2, c3, c4, c5, c6, c7, c8, c9, c10⟩ := hr3.p4
            simp only at c0 c1 c2 c3 c4 c5 c6 c7 c8 c9 c10
            go_wp2
            go_ret2
            exact ⟨_, rfl, PRd.nil _, hkB⟩
end Go.Proofs.YtngpbihnmgjniaaDoor
