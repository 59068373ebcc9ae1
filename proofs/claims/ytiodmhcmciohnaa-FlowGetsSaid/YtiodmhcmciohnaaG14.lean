/- Words, walks and plain laws that the claim leans on, part 14. -/
import Derived.Test.YtiodmhcmciohnaaG2
import Derived.Test.YtiodmhcmciohnaaG12
import Derived.Test.YtiodmhcmciohnaaG13

/-! slices.SortFunc of the call's own row of parts that rises: nothing turns. -/
namespace Go.Proofs.Ytiodmhcmciohnaa
set_option linter.unusedVariables false
set_option linter.unusedSimpArgs false
open Go.Shelf Go.RowKit Go.Lib Go.Sort

theorem sort_keeps (blk off cap : Nat) (d : Array PtS) (w : World) (hH : HoldsK encPt 2 w blk off d) (hblk : blk < w.heap.size) (hsz : d.size < 4611686018427387904) (hinc : ∀ i j, i < j → j < d.size → d[i]!.1 < d[j]!.1) :
    Calls Try.prog 37 #[.slice (some ⟨blk, off, none⟩) d.size cap, .func (.func 38) #[] #[]] w fun e w' => e = .returned (.tuple #[]) ∧ Keeps (fun _ => False) w w' := by
  refine (sort_same blk off cap d w hH hblk hsz hinc).mono fun e w' ⟨he, n, os, hw⟩ => ⟨he, ?_⟩
  have h1 : putRowK encPt 2 (Sort.ahead w n) blk off d = Sort.ahead w n := putRowK_self _ _ _ _ _ _ (fun j hj => hH j hj)
  rw [hw]
  unfold sortWorldK
  rw [h1]
  refine ⟨rfl, rfl, rfl, ?_, fun k hk _ => ?_⟩
  · show w.heap.size ≤ (w.heap ++ os).size
    rw [Array.size_append]
    omega
  · show (w.heap ++ os)[k]? = w.heap[k]?
    rw [Array.getElem?_append_left hk]

def slOf : Value → Option Addr × Nat × Nat
  | .slice a n c => (a, n, c)
  | _ => (none, 0, 0)
def toS (qs : List (Pt × Value)) : Array PtS := (qs.map fun q => (q.1.1, slOf q.2)).toArray
theorem toS_size (qs : List (Pt × Value)) : (toS qs).size = qs.length := by simp [toS]
theorem holds_own {w : World} {B : Nat} {ok : Nat → Prop} {g off n c : Nat} {qs : List (Pt × Value)} (h : TOwn w B ok (.slice (some ⟨g, off, none⟩) n c) qs) : HoldsK encPt 2 w g off (toS qs) := by
  obtain ⟨⟨h1, h0, h2⟩, hd⟩ := h
  rcases h2 with ⟨e, -, -⟩ | ⟨g', off', c', cs, hb, e, h3, h4, hr, h5, h6⟩
  · simp at e
  · simp only [Value.slice.injEq, Option.some.injEq, Addr.mk.injEq, and_true] at e
    obtain ⟨⟨rfl, rfl⟩, -, -⟩ := e
    intro j hj
    rw [size_flatK, toS_size] at hj
    refine ⟨?_, hr.frozen _⟩
    rw [hr.cell, h6 j hj]
    have hi : j / 2 < qs.length := by omega
    have hq : qs[j / 2]? = some qs[j / 2] := List.getElem?_eq_getElem hi
    have hf := flatT_get qs (j / 2) _ (j % 2) hq (by omega)
    rw [show j / 2 * 2 + j % 2 = j by omega] at hf
    rw [hf]
    show (ptcells qs[j / 2])[j % 2]? = some (flatK encPt 2 (toS qs))[j]!
    rw [get_flatK _ _ _ _ (by rw [toS_size]; exact hj)]
    have hs : (toS qs)[j / 2]! = (qs[j / 2].1.1, slOf qs[j / 2].2) := by
      rw [getElem!_pos _ _ (by rw [toS_size]; exact hi)]
      simp [toS]
    rw [hs]
    obtain ⟨a, c9, e, -, -⟩ := (hd qs[j / 2] (List.getElem_mem _)).slice
    have hm : j % 2 = 0 ∨ j % 2 = 1 := by omega
    unfold ptcells encPt
    rw [e]
    rcases hm with hm | hm
    · rw [hm]; rfl
    · rw [hm]; rfl
/-- The sort of the call's own row of parts that rises. -/
theorem sort_row {w : World} {B : Nat} {ok : Nat → Prop} {g off c : Nat} {qs : List (Pt × Value)} (h : TOwn w B ok (.slice (some ⟨g, off, none⟩) qs.length c) qs) (hl : qs.length ≤ 1000000) (hinc : (qs.map (·.1)).Pairwise (fun a b => a.1 < b.1)) :
    Calls Try.prog 37 #[.slice (some ⟨g, off, none⟩) qs.length c, .func (.func 38) #[] #[]] w fun e w' => e = .returned (.tuple #[]) ∧ Keeps (fun _ => False) w w' := by
  have hg := (Own.block h.1 g rfl).2
  have := sort_keeps g off c (toS qs) w (holds_own h) hg (by rw [toS_size]; omega) (fun i j hij hj => by
    rw [toS_size] at hj
    rw [getElem!_pos _ _ (by rw [toS_size]; omega), getElem!_pos _ _ (by rw [toS_size]; omega)]
    have := List.pairwise_iff_getElem.1 hinc i j (by rw [List.length_map]; omega) (by rw [List.length_map]; omega) hij
    simpa [toS] using this)
  rwa [toS_size] at this
end Go.Proofs.Ytiodmhcmciohnaa

/-! (*Receiver).Parts, where there are some. -/
namespace Go.Proofs.Ytiodmhcmciohnaa
set_option linter.unusedVariables false
set_option linter.unusedSimpArgs false
open Go.RowKit

set_option maxRecDepth 100000 in
set_option maxHeartbeats 4000000 in
theorem parts_any (X : Nat → Prop) (g : Nat) (room next : Int) (bv pv : Value) (L : List Pt) (w : World) (hr : RowAt w g #[.int .i64 room, .int .i64 next, bv, pv] 66) (hT : TRd w X pv L) (hL0 : 0 < L.length) (hL : L.length ≤ 1000) (hbd : ∀ r ∈ L, Bd r) (hinc : L.Pairwise (fun a b => a.1 < b.1)) :
    Calls Try.prog 20 #[.pointer (some ⟨g, 0, none⟩)] w fun e w' => ∃ v, e = .returned v ∧ TRd w' (fun _ => True) v L ∧ Keeps (fun _ => False) w w' := by
  obtain ⟨pa, pc, rfl, -, -⟩ := hT.slice
  have p3 : w.cell? ⟨g, 3, none⟩ = some (.slice pa L.length pc) := hr.cell 3
  have HCL := Lib.hid (clonept_any X _ L w hT hL0 (by omega))
  have HBD := Lib.hid hbd
  have HINC := Lib.hid hinc
  clear hT hbd hinc
  go_enter Try.func20, Try.ntmps20
  go_wp2_with fail
  refine HCL.out.mono ?_
  rintro e w2 ⟨v2, qs, rfl, hqs, ho2, hk2⟩
  have ho2' : TOwn w2 w.heap.size (fun _ => True) v2 qs := ⟨ho2.1, fun q hq => (ho2.2 q hq).mono fun b hb => ⟨trivial, hb.2⟩⟩
  have hql : qs.length = L.length := by rw [← hqs, List.length_map]
  obtain ⟨vg, vo, vc, rfl⟩ : ∃ vg vo vc, v2 = .slice (some ⟨vg, vo, none⟩) L.length vc := by
    obtain ⟨⟨h1, -, h2⟩, -⟩ := ho2'
    rcases h2 with ⟨-, h2, -⟩ | ⟨g', off', c', cs, hb, e, -⟩
    · omega
    · exact ⟨g', off', c', by rw [e, hql]⟩
  have HO := Lib.hid ho2'
  clear ho2 ho2' HCL
  go_wp2
  go_loopw [16] (fun u16 wr => ∃ (i : Nat) (qs : List (Pt × Value)), i ≤ L.length ∧ u16 = .int .i64 i ∧ TOwn wr w.heap.size (fun _ => True) (.slice (some ⟨vg, vo, none⟩) L.length vc) qs ∧ qs.map (·.1) = L ∧ Keeps (fun _ => False) w wr) (fun u16 _ => L.length - (intOf u16).toNat)
  case atStart => exact ⟨0, qs, Nat.zero_le _, rfl, HO.out, hqs, hk2⟩
  case round =>
    obtain ⟨i, qr, hi, rfl, hT, hqr, hkw⟩ := hrel
    have hqrl : qr.length = L.length := by rw [← hqr, List.length_map]
    clear HO hqs hql hk2
    by_cases hlt : i < L.length
    · have hTR := hT.reads (X := fun _ => True) (fun _ _ => trivial) (fun _ _ => trivial)
      rw [hqr] at hTR
      obtain ⟨b, off, c, dv, he, hdv, k0, k1⟩ := TRd.at hTR i hlt
      obtain ⟨⟨rfl, rfl⟩, rfl⟩ : (vg = b ∧ vo = off) ∧ vc = c := by
        simp only [Value.slice.injEq, Option.some.injEq, Addr.mk.injEq, and_true, true_and] at he
        exact he
      obtain ⟨kcs, krow⟩ : ∃ kcs, RowAt wr vg kcs 68 := by
        obtain ⟨⟨-, -, h2⟩, -⟩ := hT
        rcases h2 with ⟨e, -, -⟩ | ⟨g', off', c', cs, hb, e, -, -, hr', -⟩
        · simp at e
        · simp only [Value.slice.injEq, Option.some.injEq, Addr.mk.injEq] at e
          obtain ⟨⟨rfl, -⟩, -, -⟩ := e
          exact ⟨cs, hr'⟩
      have hgb := (Own.block hT.1 vg rfl)
      have hbi := HBD.out L[i] (List.getElem_mem _)
      have hLi : qr[i].1 = L[i] := by
        have := congrArg (fun l => l[i]?) hqr
        simp only [List.getElem?_map] at this
        rw [List.getElem?_eq_getElem (by omega), List.getElem?_eq_getElem hlt] at this
        simpa using this
      obtain ⟨p, hp⟩ : ∃ p, L[i] = p := ⟨_, rfl⟩
      rw [hp] at hdv k0 hbi hLi
      obtain ⟨at', data⟩ := p
      simp only at hdv k0
      obtain ⟨da, dc, rfl, -, -⟩ := hdv.slice
      have hbl := hbi.len
      simp only at hbl
      have HT := Lib.hid hT
      have HDV := Lib.hid hdv
      have HKW := Lib.hid hkw
      have HLI := Lib.hid hLi
      clear hT hTR hdv hkw hbi hp hLi he
      go_wp2_with fail
      have hkx := (Keeps.refl (fun _ => False) wr).alloc (.cells #[.int .i64 at', .slice da data.length dc] 68)
      refine (own_any (at', data) (.slice da data.length dc) _ (BRd.keeps HDV.out.readX hkx) (by show data.length ≤ _; omega)).mono ?_
      rintro e w3 ⟨dv3, rfl, ho3, hk3⟩
      obtain ⟨d3a, d3c, rfl, -, -⟩ := BOwn.slice ho3
      have hk23 := hkx.trans hk3 (fun _ _ h => h)
      have hrow3 := krow.keeps hk23 (fun h => h)
      have j0 := hk23.cell k0 (fun h => h)
      have j1 := hk23.cell k1 (fun h => h)
      have f0 := hrow3.frozen (vo + i * 2)
      have f1 := hrow3.frozen (vo + i * 2 + 1)
      have hsame := hrow3.setSame (j := vo + i * 2) (v := .int .i64 at') (by rw [← hrow3.cell]; exact j0)
      have hsx := hkx.size
      have hTF := HT.out.setAt (dv' := .slice d3a data.length d3c) i (by omega) hk23 rfl (by rw [HLI.out]; exact ho3.ge.mono fun y hy => ⟨trivial, by have := hgb.2; omega⟩)
      have hkF := (HKW.out.trans hk23 (fun _ _ h => h)).setCell ⟨vg, vo + i * 2 + 1, none⟩ (.slice d3a data.length d3c) (.inr hgb.1)
      have HTF := Lib.hid hTF
      have HKF := Lib.hid hkF
      have HSAME := Lib.hid hsame
      clear hTF hkF hsame hk23 hk3 ho3 hkx hrow3 krow k0 k1 HT HDV HKW
      go_wp2
      go_roundw
      case rel => exact ⟨i + 1, _, by omega, by go_num, by rw [HSAME.out]; exact HTF.out, by rw [set_map (by omega)]; exact hqr, by rw [HSAME.out]; exact HKF.out⟩
      case measure => simp [intOf]; omega
    · obtain rfl : i = L.length := by omega
      have HT := Lib.hid hT
      have HS := Lib.hid (sort_row (c := vc) (by rw [hqrl]; exact hT) (by omega) (by rw [hqr]; exact HINC.out))
      rw [hqrl] at HS
      clear hT
      go_wp2_with fail
      refine HS.out.mono ?_
      rintro e w9 ⟨rfl, hk9⟩
      go_wp2
      go_ret
      have hfin := (HT.out.keeps hk9).reads (X := fun _ => True) (fun _ _ => trivial) (fun _ _ => trivial)
      rw [hqr] at hfin
      exact ⟨_, rfl, hfin, hkw.trans hk9 (fun _ _ h => h)⟩
end Go.Proofs.Ytiodmhcmciohnaa

/-! Calls of both receivers that are refused; Parts, Next, Room of what stands. -/
namespace Go.Proofs.Ytiodmhcmciohnaa
set_option linter.unusedVariables false
set_option linter.unusedSimpArgs false
open Go.RowKit

set_option maxRecDepth 100000 in
theorem put_bad (g n c : Nat) (a : Option Addr) (at' : Int) (w : World) (hn : n ≤ 140737488355328) (hbad : at' < 0 ∨ 1000000000 - (n : Int) < at') :
    Calls Try.prog 12 #[.pointer (some ⟨g, 0, none⟩), .int .i64 at', .slice a n c] w fun e w' => e = .returned (.tuple #[.int .i64 0, .int .i64 1]) ∧ w = w' := by
  have q5 := i64_fit (1000000000 - (n : Int)) (by omega) (by omega)
  by_cases h0 : at' < 0
  · clear hbad
    go_enter Try.func12, Try.ntmps12
    go_wp2
    go_ret2
    exact ⟨rfl, rfl⟩
  · have h1 : 1000000000 - (n : Int) < at' := by omega
    clear hbad
    go_enter Try.func12, Try.ntmps12
    go_wp2
    go_ret2
    exact ⟨rfl, rfl⟩
set_option maxRecDepth 100000 in
theorem rput_bad (g n c : Nat) (a : Option Addr) (at' : Int) (w : World) (hn : n ≤ 140737488355328) (hbad : at' < 0 ∨ 1000000000 - (n : Int) < at') :
    Calls Try.prog 13 #[.pointer (some ⟨g, 0, none⟩), .int .i64 at', .slice a n c] w fun e w' => e = .returned (.tuple #[.int .i64 0, .int .i64 1]) ∧ w = w' := by
  have q5 := i64_fit (1000000000 - (n : Int)) (by omega) (by omega)
  by_cases h0 : at' < 0
  · clear hbad
    go_enter Try.func13, Try.ntmps13
    go_wp2
    go_ret2
    exact ⟨rfl, rfl⟩
  · have h1 : 1000000000 - (n : Int) < at' := by omega
    clear hbad
    go_enter Try.func13, Try.ntmps13
    go_wp2
    go_ret2
    exact ⟨rfl, rfl⟩
set_option maxRecDepth 100000 in
theorem read_bad (g : Nat) (n : Int) (w : World) (hbad : n < 0) :
    Calls Try.prog 14 #[.pointer (some ⟨g, 0, none⟩), .int .i64 n] w fun e w' => e = .returned (.tuple #[.slice none 0 0, .int .i64 1]) ∧ w = w' := by
  go_enter Try.func14, Try.ntmps14
  go_wp2
  go_ret2
  exact ⟨rfl, rfl⟩
set_option maxRecDepth 100000 in
theorem rread_bad (g : Nat) (n : Int) (w : World) (hbad : n < 0) :
    Calls Try.prog 15 #[.pointer (some ⟨g, 0, none⟩), .int .i64 n] w fun e w' => e = .returned (.tuple #[.slice none 0 0, .int .i64 1]) ∧ w = w' := by
  go_enter Try.func15, Try.ntmps15
  go_wp2
  go_ret2
  exact ⟨rfl, rfl⟩

variable {Z : Nat → Prop} {w W : World} {g x s next taken : Nat} {room : Int} {all l : List UInt8} {L : List Pt} {Q : List PB} {bv pv allv atv bsv : Value}

theorem parts_g (h : GetI Z w g x room s next taken all l L Q bv pv allv atv bsv W) (h4 : s ≤ 100000) (h6 : room ≤ 65535) :
    Calls Try.prog 20 #[.pointer (some ⟨g, 0, none⟩)] W fun e w' => ∃ v, e = .returned v ∧ TRd w' (fun _ => True) v L ∧ Keeps (fun _ => False) W w' := by
  have hsm := h.sm
  have hll := h.ll
  cases L with
  | nil => exact parts_none _ g room next bv pv W h.hr h.hL
  | cons q L =>
    refine parts_any _ g room next bv pv (q :: L) W h.hr h.hL (by simp) (by omega) (fun r hr => ?_) ?_
    · have h7 := h.b25.sep.low r hr
      have h8 := h.b25.ends r hr
      unfold Bd
      omega
    · refine h.b25.sep.sep.imp ?_
      intro a b hab
      have := endF_ge a
      omega
theorem rparts_g (h : GetI Z w g x room s next taken all l L Q bv pv allv atv bsv W) (h4 : s ≤ 100000) (h5 : 0 ≤ room) (h6 : room ≤ 65535) :
    Calls Try.prog 21 #[.pointer (some ⟨x, 0, none⟩)] W fun e w' => ∃ v, e = .returned v ∧ TRd w' (fun b => W.heap.size ≤ b) v L ∧ Keeps (fun _ => False) W w' := by
  have hsm := h.sm
  have hal := h.al
  have hql := h.ql
  have := rparts_any x (room.toNat + 1) room allv taken atv bsv all Q W ⟨h.hx, h.ha.bat.low, h.hz.bat.low, h.hb.bat.low⟩ (by omega) (by omega) (by omega) (by omega)
  have e : scanF (hasQ Q) (room.toNat + 1) (all.length : Int) [] = L := by
    have := scanF_parts (hasQ Q) L (room.toNat + 1) (all.length : Int) [] (h.b25.sep.mono (by omega)) (fun r hr => by have := h.b25.ends r hr; omega) (fun t _ => h.b25.eq t) (fun l h => by cases h)
    rw [List.nil_append] at this
    exact this
  rw [e] at this
  exact this
theorem next_g (h : GetI Z w g x room s next taken all l L Q bv pv allv atv bsv W) : Calls Try.prog 16 #[.pointer (some ⟨g, 0, none⟩)] W fun e w' => e = .returned (.int .i64 next) ∧ W = w' := next_any g room next bv pv W h.hr
theorem room_g (h : GetI Z w g x room s next taken all l L Q bv pv allv atv bsv W) (h4 : s ≤ 100000) (h5 : 0 ≤ room) (h6 : room ≤ 65535) :
    Calls Try.prog 17 #[.pointer (some ⟨g, 0, none⟩)] W fun e w' => e = .returned (.int .i64 (room - l.length)) ∧ ∃ m, w' = W.drewN m := by
  obtain ⟨ba, bc, hbv, -, -⟩ := BOwn.slice h.ho
  have := h.lr
  exact room_any g bv pv room next l.length ba bc W h.hr hbv (by omega) (by omega) (by omega)
theorem rroom_g (h : GetI Z w g x room s next taken all l L Q bv pv allv atv bsv W) (h4 : s ≤ 100000) (h5 : 0 ≤ room) (h6 : room ≤ 65535) :
    Calls Try.prog 18 #[.pointer (some ⟨x, 0, none⟩)] W fun e w' => e = .returned (.int .i64 (room - l.length)) ∧ ∃ m, w' = W.drewN m := by
  have hsm := h.sm
  have hal := h.al
  have hll : (l.length : Int) = (next : Int) - (taken : Int) := by have h7 := h.eq; have h8 := h.tl; rw [h7, List.length_drop]; omega
  have := rroom_any x room allv taken atv bsv all Q W ⟨h.hx, h.ha.bat.low, h.hz.bat.low, h.hb.bat.low⟩ h5 (by omega) (by omega) (by have := h.tl; omega)
  rw [hal, ← hll] at this
  exact this
end Go.Proofs.Ytiodmhcmciohnaa

/-! The law FlowGets. -/
namespace Go.Proofs.Ytiodmhcmciohnaa
set_option linter.unusedVariables false
set_option linter.unusedSimpArgs false
open Go.RowKit

set_option maxRecDepth 100000 in
set_option maxHeartbeats 8000000 in
theorem lgets_any (room : Int) (rv : Value) (S : List OpV) (w : World) (hR : ORd w rv S) (_ : (Lit.int .i64 room).wf = true) :
    Calls Try.prog 3 #[.int .i64 room, rv] w fun e w' => e = .returned (.bool true) ∧ Keeps (fun _ => False) w w' := by
  have hfew := few_any rv S w hR
  obtain ⟨ra, rc, rfl, hrc, hrm⟩ := hR.slice
  simp only [maxLen] at hrm
  have hns := newr_any room w
  unfold NewR at hns
  cases hF : fewO S with
  | false =>
    rw [hF] at hfew
    have HF := Lib.hid hfew
    clear hfew hR hns hF
    by_cases hb1 : (300 : Int) < room
    · by_cases hb2 : room ≤ 65535
      all_goals
        go_enter Try.func3, Try.ntmps3
        go_wp2_with fail
        refine HF.out.mono ?_
        rintro e w2 ⟨rfl, rfl⟩
        go_wp2_with fail
        go_ret
        exact ⟨rfl, Keeps.refl _ _⟩
    · go_enter Try.func3, Try.ntmps3
      go_wp2_with fail
      refine HF.out.mono ?_
      rintro e w2 ⟨rfl, rfl⟩
      go_wp2_with fail
      go_ret
      exact ⟨rfl, Keeps.refl _ _⟩
  | true =>
    have hFF : S.length ≤ 60 ∧ sumO S ≤ 3000 := by
      unfold fewO at hF
      rw [Bool.and_eq_true] at hF
      exact ⟨of_decide_eq_true hF.1, of_decide_eq_true hF.2⟩
    rw [hF] at hfew
    have HF := Lib.hid hfew
    have HNS := Lib.hid hns
    have HH := Lib.hid hR
    clear hfew hR hns hF
    cases hb : mayR room with
    | false =>
      have hb' := hb
      unfold mayR at hb'
      simp only [Bool.and_eq_false_iff, decide_eq_false_iff_not] at hb'
      rw [hb] at HNS
      by_cases hb1 : room < 1
      · have hb3 : ¬ (300 : Int) < room := by omega
        clear hb' hb HH
        go_enter Try.func3, Try.ntmps3
        go_wp2_with fail
        refine HF.out.mono ?_
        rintro e w2 ⟨rfl, rfl⟩
        go_wp2_with fail
        refine HNS.out.mono ?_
        rintro e w2 ⟨hk2, ⟨-, rfl⟩ | ⟨h, -⟩⟩
        rotate_left 1
        · cases h
        go_wp2_with (go_at_call 10; refine (awake_any _).mono ?_; rintro e w9 ⟨rfl, hk9⟩)
        go_ret
        exact ⟨rfl, hk2.trans hk9 (fun _ _ h => h)⟩
      · have hb2 : (65535 : Int) < room := by omega
        have hb3 : (300 : Int) < room := by omega
        have hb4 : ¬ room ≤ 65535 := by omega
        clear hb' hb HH
        go_enter Try.func3, Try.ntmps3
        go_wp2_with fail
        refine HF.out.mono ?_
        rintro e w2 ⟨rfl, rfl⟩
        go_wp2_with fail
        refine HNS.out.mono ?_
        rintro e w2 ⟨hk2, ⟨-, rfl⟩ | ⟨h, -⟩⟩
        rotate_left 1
        · cases h
        go_wp2_with (go_at_call 10; refine (awake_any _).mono ?_; rintro e w9 ⟨rfl, hk9⟩)
        go_ret
        exact ⟨rfl, hk2.trans hk9 (fun _ _ h => h)⟩
    | true =>
      have hb' := hb
      unfold mayR at hb'
      simp only [Bool.and_eq_true, decide_eq_true_eq] at hb'
      obtain ⟨hb1, hb2⟩ := hb'
      rw [hb] at HNS
      have n1 : ¬ room < 1 := by omega
      have n2 : ¬ (65535 : Int) < room := by omega
      clear hb
      by_cases hb3 : (300 : Int) < room
      · clear HNS HH
        go_enter Try.func3, Try.ntmps3
        go_wp2_with fail
        refine HF.out.mono ?_
        rintro e w2 ⟨rfl, rfl⟩
        go_wp2_with fail
        go_ret
        exact ⟨rfl, Keeps.refl _ _⟩
      have hr3 : room ≤ 300 := by omega
      go_enter Try.func3, Try.ntmps3
      go_wp2_with fail
      refine HF.out.mono ?_
      rintro e w2 ⟨rfl, rfl⟩
      go_wp2_with fail
      refine HNS.out.mono ?_
      rintro e w2 ⟨hk2, ⟨h, -⟩ | ⟨-, g, rfl, hg, hrg⟩⟩
      · cases h
      clear HNS HF
      go_wp2_with fail
      have hI : GetI (fun _ => False) w g w2.heap.size room 0 0 0 [] [] [] [] (.slice none 0 0) (.slice none 0 0) (.slice none 0 0) (.slice none 0 0) (.slice none 0 0) (w2.alloc (.cells #[.int .i64 room, .slice none 0 0, .int .i64 0, .slice none 0 0, .slice none 0 0] 33)) :=
        GetI.start (hrg.alloc _) (RowAt.new _ _ _) (by omega) hg hk2.size (hk2.alloc _)
      obtain ⟨x, hx⟩ : ∃ x, w2.heap.size = x := ⟨_, rfl⟩
      rw [hx] at hI ⊢
      go_loopw [8] (fun u8 wr => ∃ (i next taken : Nat) (all l : List UInt8) (L : List Pt) (Q : List PB) (bv pv allv atv bsv : Value), i ≤ S.length ∧ u8 = .int .i64 i ∧ GetI (fun _ => False) w g x room (sumO (S.take i) + 300 * i) next taken all l L Q bv pv allv atv bsv wr) (fun u8 _ => S.length - (intOf u8).toNat)
      case atStart => exact ⟨0, 0, 0, [], [], [], [], _, _, _, _, _, Nat.zero_le _, rfl, hI⟩
      case round =>
        obtain ⟨i, next, taken, all, l, L, Q, bv, pv, allv, atv, bsv, hi, rfl, hI2⟩ := hrel
        have HI := Lib.hid hI2
        clear hI2 hI hx hrg hk2
        by_cases hlt : i < S.length
        · obtain ⟨b, off, c', dv, he, hbl, hd, hft, k0, k1, k2, k3⟩ := ORd.at HH.out i hlt
          obtain ⟨rfl, -, rfl⟩ : ra = some ⟨b, off, none⟩ ∧ True ∧ rc = c' := by
            simp only [Value.slice.injEq] at he
            exact ⟨he.1, trivial, he.2.2⟩
          have hss := sumO_succ S i hlt
          have hsl : sumO (S.take (i + 1)) ≤ sumO S := by
            have h1 := congrArg sumO (List.take_append_drop (i + 1) S)
            unfold sumO at *
            rw [List.map_append, List.sum_append] at h1
            omega
          obtain ⟨o, ho⟩ : ∃ o, S[i] = o := ⟨_, rfl⟩
          rw [ho] at hd hft k0 k1 k2 hss
          clear he ho
          obtain ⟨call, at', n, data⟩ := o
          obtain ⟨da, dc, rfl, hdc, hdm⟩ := BAt.slice hd
          obtain ⟨fc1, fc2, fa1, fa2, fn1, fn2, -⟩ := hft
          simp only at fc1 fc2 fa1 fa2 fn1 fn2 hss hd k0 k1 k2 k3 hdc
          obtain ⟨s, hs⟩ : ∃ s, sumO (S.take i) + 300 * i = s := ⟨_, rfl⟩
          have hss' : sumO (S.take (i + 1)) + 300 * (i + 1) = s + (data.length + 300) := by omega
          have hs3 : s + (data.length + 300) ≤ 21000 := by omega
          rw [hs] at HI
          have HSS := Lib.hid hss'
          have HD := Lib.hid hd
          have e0 := HI.out.hk.cell k0 (fun h => h)
          have e1 := HI.out.hk.cell k1 (fun h => h)
          have e2 := HI.out.hk.cell k2 (fun h => h)
          have e3 := HI.out.hk.cell k3 (fun h => h)
          clear hss hss' hs k0 k1 k2 k3 hd hsl hFF
          go_wp2_with fail
          have hkA := ((Keeps.refl (fun _ => False) wr).alloc (.cells #[.int .i64 call, .int .i64 at', .int .i64 n, .slice da data.length dc] 35))
          have hkB := hkA.alloc (.cells #[.slice da data.length dc] 30)
          have hqA := (RowAt.new wr #[.int .i64 call, .int .i64 at', .int .i64 n, .slice da data.length dc] 35).alloc (.cells #[.slice da data.length dc] 30)
          have hdA : BRd (wr.alloc (.cells #[.int .i64 call, .int .i64 at', .int .i64 n, .slice da data.length dc] 35)) (.slice da data.length dc) data := HD.out.keeps (HI.out.hk.trans hkA (fun _ _ h => h))
          have hszA : (wr.alloc (.cells #[.int .i64 call, .int .i64 at', .int .i64 n, .slice da data.length dc] 35)).heap.size = wr.heap.size + 1 := Array.size_push _
          have hbA := (BBAt.one (T := 30) hdA).low
          rw [hszA] at hbA
          refine (both_any _ [data] _ hbA (by simp; omega)).mono ?_
          clear hbA hszA
          rintro e w3 ⟨v3, rfl, ho3, hk3⟩
          rw [show [data].flatten = data by simp] at ho3
          obtain ⟨oa, oc, rfl, -, -⟩ := BOwn.slice ho3
          have hk03 := hkB.trans hk3 (fun _ _ h => h)
          have hT := HI.out.opened hk03 (ho3.mono hkB.size)
          have hq3 := hqA.keeps hk3 (fun h => h)
          have hdw : BAt w3 (fun b => b < w.heap.size) (.slice da data.length dc) data := BAt.keeps HD.out hT.hk (fun _ _ h => h)
          have hqw : w.heap.size ≤ wr.heap.size := HI.out.hk.size
          have hqg : wr.heap.size ≠ g := by have := HI.out.hr.lt; omega
          have hqx : wr.heap.size ≠ x := by have := HI.out.hx.lt; omega
          have hqo : (Value.slice oa data.length oc).ownBlock ≠ some wr.heap.size := ho3.apart hq3 (by decide)
          have hqb : bv.ownBlock ≠ some wr.heap.size := fun e => by have := (HI.out.ho.block _ e).2; omega
          have ho3' := ho3.mono (base' := w.heap.size) (Nat.le_trans hqw hkB.size)
          clear hk03 hk3 ho3 hdA hqA hkB hkA e0 e1 e2 e3 HD HI
          generalize wr.heap.size = q at *
          have HT := Lib.hid hT
          have HDW := Lib.hid hdw
          have HQ := Lib.hid hq3
          have HO := Lib.hid ho3'
          have j0 : w3.cell? ⟨q, 0, none⟩ = some (.int .i64 call) := hq3.cell 0
          have j1 : w3.cell? ⟨q, 1, none⟩ = some (.int .i64 at') := hq3.cell 1
          have j2 : w3.cell? ⟨q, 2, none⟩ = some (.int .i64 n) := hq3.cell 2
          have j3 : w3.cell? ⟨q, 3, none⟩ = some (.slice da data.length dc) := hq3.cell 3
          clear hT hdw hq3 ho3'
          by_cases hc0 : call = 0
          · subst hc0
            clear fc1 fc2
            by_cases hbad : at' < 0 ∨ 1000000000 - (data.length : Int) < at'
            · have HP := Lib.hid (put_bad g data.length oc oa at' w3 (by omega) hbad)
              have HRP := Lib.hid (rput_bad x data.length dc da at' w3 (by omega) hbad)
              clear hbad
              go_wp2_with fail
              refine HP.out.mono ?_
              rintro e w4 ⟨rfl, rfl⟩
              go_wp2_with fail
              refine HRP.out.mono ?_
              rintro e w5 ⟨rfl, rfl⟩
              have hT5 := HT.out.more (data.length + 300)
              have HQ5 := HQ
              have HW5 := HO
              have HD5 := Lib.hid (show BRd w3 (.slice da data.length dc) data from HDW.out.mono fun b hb => Nat.lt_of_lt_of_le hb HT.out.hk.size)
              clear HP HRP HT HDW HQ HO j0 j1 j2 j3
              go_wp2
              generalize w3 = W5 at *
              have HU := Lib.hid hT5
              obtain ⟨aa9, ac9, hav, -, -⟩ := BOwn.slice HU.out.ha
              subst hav
              clear hT5
              generalize hWW : W5 = W8 at *
              clear hWW
              obtain ⟨N, hN⟩ : ∃ N : Nat, next = N := ⟨_, rfl⟩
              have hAl : (all).length = N := by rw [← hN]; exact HU.out.al
              have hC0 : ∀ z, Keeps (fun _ => False) W8 z → z.cell? ⟨q, 3, none⟩ = some (.slice da data.length dc) ∧ z.cell? ⟨x, 1, none⟩ = some (.slice aa9 N ac9) ∧
                  (convert 30 9 (.slice oa data.length oc)).run Try.prog z = .ok (.string ⟨data.toArray⟩) z ∧ (convert 30 9 (.slice da data.length dc)).run Try.prog z = .ok (.string ⟨data.toArray⟩) z := fun z hz =>
                ⟨hz.cell (HQ5.out.cell 3) (fun h => h), hz.cell (by have := HU.out.hx.cell 1; rw [hAl] at this; exact this) (fun h => h), (HW5.out.keeps hz (fun _ _ h => h)).bat.text, (HD5.out.keeps hz).text⟩
              have HC0 := Lib.hid hC0
              clear hC0
              have hNX := Lib.hid (fun z hz => next_g (HU.out.keeps (W' := z) hz))
              have hRM := Lib.hid (fun z hz => room_g (HU.out.keeps (W' := z) hz) (by omega) (by omega) (by omega))
              have hRR := Lib.hid (fun z hz => rroom_g (HU.out.keeps (W' := z) hz) (by omega) (by omega) (by omega))
              have hPP := Lib.hid (fun z hz => parts_g (HU.out.keeps (W' := z) hz) (by omega) (by omega))
              have hPR := Lib.hid (fun z hz => rparts_g (HU.out.keeps (W' := z) hz) (by omega) (by omega) (by omega))
              have hLL : (L).length ≤ 1000000 := by have := HU.out.ll; omega
              have hk0 := (Keeps.refl (fun _ => False) W8).drew
              refine region_T [] (fun z => z.cell? ⟨q, 3, none⟩ = some (.slice da data.length dc) ∧ z.cell? ⟨x, 1, none⟩ = some (.slice aa9 N ac9) ∧
                  (convert 30 9 (.slice oa data.length oc)).run Try.prog z = .ok (.string ⟨data.toArray⟩) z ∧ (convert 30 9 (.slice da data.length dc)).run Try.prog z = .ok (.string ⟨data.toArray⟩) z) (by kernel_rfl) ?_
              have hC := HC0.out _ hk0
              refine anyT_take0 (i := 0) (v := ?_) rfl (by kernel_rfl) (by kernel_rfl) (by kernel_rfl) (by kernel_rfl) (by kernel_rfl) (fun _ _ _ h => h) hC (.inl ⟨by rfl, fun _ _ => ?_⟩) ?_
              rotate_left 1
              · go_simp
                try with_reducible rfl
              simp only [Act.put, List.getElem_toArray, List.getElem_cons_succ, List.getElem_cons_zero, List.setIfInBounds_toArray, List.set_cons_zero, List.set_cons_succ]
              refine anyT_take0 (i := 1) (v := ?_) rfl (by kernel_rfl) (by kernel_rfl) (by kernel_rfl) (by kernel_rfl) (by kernel_rfl) (fun _ _ _ h => h) hC (.inl ⟨by rfl, fun _ _ => ?_⟩) ?_
              rotate_left 1
              · go_simp
                try with_reducible rfl
              simp only [Act.put, List.getElem_toArray, List.getElem_cons_succ, List.getElem_cons_zero, List.setIfInBounds_toArray, List.set_cons_zero, List.set_cons_succ]
              refine anyT_take0 (i := 2) (v := ?_) rfl (by kernel_rfl) (by kernel_rfl) (by kernel_rfl) (by kernel_rfl) (by kernel_rfl) (fun _ _ _ h => h) hC (.inl ⟨by rfl, fun _ _ => ?_⟩) ?_
              rotate_left 1
              · go_simp
                try with_reducible rfl
              simp only [Act.put, List.getElem_toArray, List.getElem_cons_succ, List.getElem_cons_zero, List.setIfInBounds_toArray, List.set_cons_zero, List.set_cons_succ]
              refine anyT_take0 (i := 3) (v := ?_) rfl (by kernel_rfl) (by kernel_rfl) (by kernel_rfl) (by kernel_rfl) (by kernel_rfl) (fun _ _ _ h => h) hC (.inl ⟨by rfl, fun _ _ => ?_⟩) ?_
              rotate_left 1
              · go_simp
                try with_reducible rfl
              simp only [Act.put, List.getElem_toArray, List.getElem_cons_succ, List.getElem_cons_zero, List.setIfInBounds_toArray, List.set_cons_zero, List.set_cons_succ]
              refine anyT_takeC (i := 4) (v := ?_) rfl (by kernel_rfl) (by kernel_rfl) (by kernel_rfl) (by kernel_rfl) (by kernel_rfl) (by kernel_rfl) (fun _ _ _ h => h) hC (.inl ⟨by rfl, fun w hCw => ?_⟩) ?_
              rotate_left 1
              · dsimp only at hCw
                go_simp
                try with_reducible rfl
              simp only [Act.put, List.getElem_toArray, List.getElem_cons_succ, List.getElem_cons_zero, List.setIfInBounds_toArray, List.set_cons_zero, List.set_cons_succ]
              refine anyT_take0 (i := 5) (v := ?_) rfl (by kernel_rfl) (by kernel_rfl) (by kernel_rfl) (by kernel_rfl) (by kernel_rfl) (fun _ _ _ h => h) hC (.inl ⟨by rfl, fun _ _ => ?_⟩) ?_
              rotate_left 1
              · go_simp
                try with_reducible rfl
              simp only [Act.put, List.getElem_toArray, List.getElem_cons_succ, List.getElem_cons_zero, List.setIfInBounds_toArray, List.set_cons_zero, List.set_cons_succ]
              refine anyT_takeC (i := 6) (v := ?_) rfl (by kernel_rfl) (by kernel_rfl) (by kernel_rfl) (by kernel_rfl) (by kernel_rfl) (by kernel_rfl) (fun _ _ _ h => h) hC (.inl ⟨by rfl, fun w hCw => ?_⟩) ?_
              rotate_left 1
              · dsimp only at hCw
                go_simp
                try with_reducible rfl
              simp only [Act.put, List.getElem_toArray, List.getElem_cons_succ, List.getElem_cons_zero, List.setIfInBounds_toArray, List.set_cons_zero, List.set_cons_succ]
              refine anyT_takeC (i := 7) (v := ?_) rfl (by kernel_rfl) (by kernel_rfl) (by kernel_rfl) (by kernel_rfl) (by kernel_rfl) (by kernel_rfl) (fun _ _ _ h => h) hC (.inl ⟨by rfl, fun w hCw => ?_⟩) ?_
              rotate_left 1
              · dsimp only at hCw
                go_simp
                try with_reducible rfl
              simp only [Act.put, List.getElem_toArray, List.getElem_cons_succ, List.getElem_cons_zero, List.setIfInBounds_toArray, List.set_cons_zero, List.set_cons_succ]
              refine anyT_take0 (i := 8) (v := ?_) rfl (by kernel_rfl) (by kernel_rfl) (by kernel_rfl) (by kernel_rfl) (by kernel_rfl) (fun _ _ _ h => h) hC (.inl ⟨by rfl, fun _ _ => ?_⟩) ?_
              rotate_left 1
              · go_simp
                try with_reducible rfl
              simp only [Act.put, List.getElem_toArray, List.getElem_cons_succ, List.getElem_cons_zero, List.setIfInBounds_toArray, List.set_cons_zero, List.set_cons_succ]
              refine anyT_take0 (i := 9) (v := ?_) rfl (by kernel_rfl) (by kernel_rfl) (by kernel_rfl) (by kernel_rfl) (by kernel_rfl) (fun _ _ _ h => h) hC (.inl ⟨by rfl, fun _ _ => ?_⟩) ?_
              rotate_left 1
              · go_simp
                try with_reducible rfl
              simp only [Act.put, List.getElem_toArray, List.getElem_cons_succ, List.getElem_cons_zero, List.setIfInBounds_toArray, List.set_cons_zero, List.set_cons_succ]
              refine anyT_take0 (i := 10) (v := ?_) rfl (by kernel_rfl) (by kernel_rfl) (by kernel_rfl) (by kernel_rfl) (by kernel_rfl) (fun _ _ _ h => h) hC (.inl ⟨by rfl, fun _ _ => ?_⟩) ?_
              rotate_left 1
              · go_simp
                try with_reducible rfl
              simp only [Act.put, List.getElem_toArray, List.getElem_cons_succ, List.getElem_cons_zero, List.setIfInBounds_toArray, List.set_cons_zero, List.set_cons_succ]
              refine anyT_take0 (i := 11) (v := ?_) rfl (by kernel_rfl) (by kernel_rfl) (by kernel_rfl) (by kernel_rfl) (by kernel_rfl) (fun _ _ _ h => h) hC (.inl ⟨by rfl, fun _ _ => ?_⟩) ?_
              rotate_left 1
              · go_simp
                try with_reducible rfl
              simp only [Act.put, List.getElem_toArray, List.getElem_cons_succ, List.getElem_cons_zero, List.setIfInBounds_toArray, List.set_cons_zero, List.set_cons_succ]
              refine anyT_take0 (i := 13) (v := ?_) rfl (by kernel_rfl) (by kernel_rfl) (by kernel_rfl) (by kernel_rfl) (by kernel_rfl) (fun _ _ _ h => h) hC (.inl ⟨by rfl, fun _ _ => ?_⟩) ?_
              rotate_left 1
              · go_simp
                try with_reducible rfl
              simp only [Act.put, List.getElem_toArray, List.getElem_cons_succ, List.getElem_cons_zero, List.setIfInBounds_toArray, List.set_cons_zero, List.set_cons_succ]
              refine anyT_take0 (i := 14) (v := ?_) rfl (by kernel_rfl) (by kernel_rfl) (by kernel_rfl) (by kernel_rfl) (by kernel_rfl) (fun _ _ _ h => h) hC (.inl ⟨by rfl, fun _ _ => ?_⟩) ?_
              rotate_left 1
              · go_simp
                try with_reducible rfl
              simp only [Act.put, List.getElem_toArray, List.getElem_cons_succ, List.getElem_cons_zero, List.setIfInBounds_toArray, List.set_cons_zero, List.set_cons_succ]
              refine anyT_take0 (i := 15) (v := ?_) rfl (by kernel_rfl) (by kernel_rfl) (by kernel_rfl) (by kernel_rfl) (by kernel_rfl) (fun _ _ _ h => h) hC (.inl ⟨by rfl, fun _ _ => ?_⟩) ?_
              rotate_left 1
              · go_simp
                try with_reducible rfl
              simp only [Act.put, List.getElem_toArray, List.getElem_cons_succ, List.getElem_cons_zero, List.setIfInBounds_toArray, List.set_cons_zero, List.set_cons_succ]
              refine anyT_takeC (i := 16) (v := ?_) rfl (by kernel_rfl) (by kernel_rfl) (by kernel_rfl) (by kernel_rfl) (by kernel_rfl) (by kernel_rfl) (fun _ _ _ h => h) hC (.inl ⟨by rfl, fun w hCw => ?_⟩) ?_
              rotate_left 1
              · dsimp only at hCw
                go_simp
                try with_reducible rfl
              simp only [Act.put, List.getElem_toArray, List.getElem_cons_succ, List.getElem_cons_zero, List.setIfInBounds_toArray, List.set_cons_zero, List.set_cons_succ]
              refine anyT_take0 (i := 17) (v := ?_) rfl (by kernel_rfl) (by kernel_rfl) (by kernel_rfl) (by kernel_rfl) (by kernel_rfl) (fun _ _ _ h => h) hC (.inl ⟨by rfl, fun _ _ => ?_⟩) ?_
              rotate_left 1
              · go_simp
                try with_reducible rfl
              simp only [Act.put, List.getElem_toArray, List.getElem_cons_succ, List.getElem_cons_zero, List.setIfInBounds_toArray, List.set_cons_zero, List.set_cons_succ]
              refine anyT_force (i := 12) rfl (by kernel_rfl) (by rfl) ?_
              go_simp
              refine (hNX.out _ hk0).mono ?_
              rintro e z1 ⟨rfl, rfl⟩
              refine ⟨fun _ => hC, ?_⟩
              try simp only [Act.put, List.getElem_toArray, List.getElem_cons_succ, List.getElem_cons_zero, List.setIfInBounds_toArray, List.set_cons_zero, List.set_cons_succ]
              rw [hN]
              refine anyT_take0 (i := 18) (v := ?_) rfl (by kernel_rfl) (by kernel_rfl) (by kernel_rfl) (by kernel_rfl) (by kernel_rfl) (fun _ _ _ h => h) hC (.inl ⟨by rfl, fun _ _ => ?_⟩) ?_
              rotate_left 1
              · go_simp
                try with_reducible rfl
              simp only [Act.put, List.getElem_toArray, List.getElem_cons_succ, List.getElem_cons_zero, List.setIfInBounds_toArray, List.set_cons_zero, List.set_cons_succ]
              refine anyT_take0 (i := 19) (v := ?_) rfl (by kernel_rfl) (by kernel_rfl) (by kernel_rfl) (by kernel_rfl) (by kernel_rfl) (fun _ _ _ h => h) hC (.inl ⟨by rfl, fun _ _ => ?_⟩) ?_
              rotate_left 1
              · go_simp
                try with_reducible rfl
              simp only [Act.put, List.getElem_toArray, List.getElem_cons_succ, List.getElem_cons_zero, List.setIfInBounds_toArray, List.set_cons_zero, List.set_cons_succ]
              refine anyT_take0 (i := 20) (v := ?_) rfl (by kernel_rfl) (by kernel_rfl) (by kernel_rfl) (by kernel_rfl) (by kernel_rfl) (fun _ _ _ h => h) hC (.inl ⟨by rfl, fun _ _ => ?_⟩) ?_
              rotate_left 1
              · go_simp
                try with_reducible rfl
              simp only [Act.put, List.getElem_toArray, List.getElem_cons_succ, List.getElem_cons_zero, List.setIfInBounds_toArray, List.set_cons_zero, List.set_cons_succ]
              refine anyT_take0 (i := 21) (v := ?_) rfl (by kernel_rfl) (by kernel_rfl) (by kernel_rfl) (by kernel_rfl) (by kernel_rfl) (fun _ _ _ h => h) hC (.inl ⟨by rfl, fun _ _ => ?_⟩) ?_
              rotate_left 1
              · go_simp
                try with_reducible rfl
              simp only [Act.put, List.getElem_toArray, List.getElem_cons_succ, List.getElem_cons_zero, List.setIfInBounds_toArray, List.set_cons_zero, List.set_cons_succ]
              refine anyT_take0 (i := 23) (v := ?_) rfl (by kernel_rfl) (by kernel_rfl) (by kernel_rfl) (by kernel_rfl) (by kernel_rfl) (fun _ _ _ h => h) hC (.inl ⟨by rfl, fun _ _ => ?_⟩) ?_
              rotate_left 1
              · go_simp
                try with_reducible rfl
              simp only [Act.put, List.getElem_toArray, List.getElem_cons_succ, List.getElem_cons_zero, List.setIfInBounds_toArray, List.set_cons_zero, List.set_cons_succ]
              refine anyT_force (i := 22) rfl (by kernel_rfl) (by rfl) ?_
              go_simp
              refine (hRM.out _ hk0).mono ?_
              rintro e z2 ⟨rfl, hz2⟩
              have hk2 : Keeps (fun _ => False) W8 z2 := by obtain ⟨m2, rfl⟩ := hz2; exact hk0.drewN m2
              clear hC hz2
              have hC := HC0.out _ hk2
              refine ⟨fun _ => hC, ?_⟩
              try simp only [Act.put, List.getElem_toArray, List.getElem_cons_succ, List.getElem_cons_zero, List.setIfInBounds_toArray, List.set_cons_zero, List.set_cons_succ]
              refine anyT_force (i := 24) rfl (by kernel_rfl) (by rfl) ?_
              go_simp
              refine (hRR.out _ hk2).mono ?_
              rintro e z3 ⟨rfl, hz3⟩
              have hk3 : Keeps (fun _ => False) W8 z3 := by obtain ⟨m3, rfl⟩ := hz3; exact hk2.drewN m3
              clear hC hz3
              have hC := HC0.out _ hk3
              refine ⟨fun _ => hC, ?_⟩
              try simp only [Act.put, List.getElem_toArray, List.getElem_cons_succ, List.getElem_cons_zero, List.setIfInBounds_toArray, List.set_cons_zero, List.set_cons_succ]
              refine anyT_take0 (i := 25) (v := ?_) rfl (by kernel_rfl) (by kernel_rfl) (by kernel_rfl) (by kernel_rfl) (by kernel_rfl) (fun _ _ _ h => h) hC (.inl ⟨by rfl, fun _ _ => ?_⟩) ?_
              rotate_left 1
              · go_simp
                try with_reducible rfl
              simp only [Act.put, List.getElem_toArray, List.getElem_cons_succ, List.getElem_cons_zero, List.setIfInBounds_toArray, List.set_cons_zero, List.set_cons_succ]
              refine anyT_take0 (i := 26) (v := ?_) rfl (by kernel_rfl) (by kernel_rfl) (by kernel_rfl) (by kernel_rfl) (by kernel_rfl) (fun _ _ _ h => h) hC (.inl ⟨by rfl, fun _ _ => ?_⟩) ?_
              rotate_left 1
              · go_simp
                try with_reducible rfl
              simp only [Act.put, List.getElem_toArray, List.getElem_cons_succ, List.getElem_cons_zero, List.setIfInBounds_toArray, List.set_cons_zero, List.set_cons_succ]
              refine anyT_take0 (i := 27) (v := ?_) rfl (by kernel_rfl) (by kernel_rfl) (by kernel_rfl) (by kernel_rfl) (by kernel_rfl) (fun _ _ _ h => h) hC (.inl ⟨by rfl, fun _ _ => ?_⟩) ?_
              rotate_left 1
              · go_simp
                try with_reducible rfl
              simp only [Act.put, List.getElem_toArray, List.getElem_cons_succ, List.getElem_cons_zero, List.setIfInBounds_toArray, List.set_cons_zero, List.set_cons_succ]
              refine anyT_take0 (i := 28) (v := ?_) rfl (by kernel_rfl) (by kernel_rfl) (by kernel_rfl) (by kernel_rfl) (by kernel_rfl) (fun _ _ _ h => h) hC (.inl ⟨by rfl, fun _ _ => ?_⟩) ?_
              rotate_left 1
              · go_simp
                try with_reducible rfl
              simp only [Act.put, List.getElem_toArray, List.getElem_cons_succ, List.getElem_cons_zero, List.setIfInBounds_toArray, List.set_cons_zero, List.set_cons_succ]
              refine anyT_take0 (i := 30) (v := ?_) rfl (by kernel_rfl) (by kernel_rfl) (by kernel_rfl) (by kernel_rfl) (by kernel_rfl) (fun _ _ _ h => h) hC (.inl ⟨by rfl, fun _ _ => ?_⟩) ?_
              rotate_left 1
              · go_simp
                try with_reducible rfl
              simp only [Act.put, List.getElem_toArray, List.getElem_cons_succ, List.getElem_cons_zero, List.setIfInBounds_toArray, List.set_cons_zero, List.set_cons_succ]
              refine anyT_force (i := 29) rfl (by kernel_rfl) (by rfl) ?_
              go_simp
              refine (hPP.out _ hk3).mono ?_
              rintro e z4 ⟨vp, rfl, hTp, hkp⟩
              have hk4 := hk3.trans hkp (fun _ _ h => h)
              clear hC
              have hC := HC0.out _ hk4
              refine ⟨fun _ => hC, ?_⟩
              try simp only [Act.put, List.getElem_toArray, List.getElem_cons_succ, List.getElem_cons_zero, List.setIfInBounds_toArray, List.set_cons_zero, List.set_cons_succ]
              refine anyT_force (i := 31) rfl (by kernel_rfl) (by rfl) ?_
              go_simp
              refine (hPR.out _ hk4).mono ?_
              rintro e z5 ⟨vq, rfl, hTq, hkq⟩
              have hk5 := hk4.trans hkq (fun _ _ h => h)
              have hTp5 := hTp.keeps hkq (fun _ _ h => h)
              clear hC
              have hC := HC0.out _ hk5
              refine ⟨fun _ => hC, ?_⟩
              try simp only [Act.put, List.getElem_toArray, List.getElem_cons_succ, List.getElem_cons_zero, List.setIfInBounds_toArray, List.set_cons_zero, List.set_cons_succ]
              have hSA := Lib.hid (same_any _ _ vp vq _ z5 hTp5 hTq hLL)
              clear hTp hTp5 hTq hkp hkq
              refine anyT_force (i := 32) rfl (by kernel_rfl) (by rfl) ?_
              go_simp
              refine (hSA.out).mono ?_
              rintro e z6 ⟨rfl, hz6⟩
              have hk6 : Keeps (fun _ => False) W8 z6 := by obtain ⟨m6, rfl⟩ := hz6; exact hk5.drewN m6
              clear hC hz6
              have hC := HC0.out _ hk6
              refine ⟨fun _ => hC, ?_⟩
              try simp only [Act.put, List.getElem_toArray, List.getElem_cons_succ, List.getElem_cons_zero, List.setIfInBounds_toArray, List.set_cons_zero, List.set_cons_succ]
              refine anyT_take0 (i := 33) (v := ?_) rfl (by kernel_rfl) (by kernel_rfl) (by kernel_rfl) (by kernel_rfl) (by kernel_rfl) (fun _ _ _ h => h) hC (.inl ⟨by rfl, fun _ _ => ?_⟩) ?_
              rotate_left 1
              · go_simp
                try with_reducible rfl
              simp only [Act.put, List.getElem_toArray, List.getElem_cons_succ, List.getElem_cons_zero, List.setIfInBounds_toArray, List.set_cons_zero, List.set_cons_succ]
              refine anyT_take0 (i := 34) (v := ?_) rfl (by kernel_rfl) (by kernel_rfl) (by kernel_rfl) (by kernel_rfl) (by kernel_rfl) (fun _ _ _ h => h) hC (.inl ⟨by rfl, fun _ _ => ?_⟩) ?_
              rotate_left 1
              · go_simp
                try with_reducible rfl
              simp only [Act.put, List.getElem_toArray, List.getElem_cons_succ, List.getElem_cons_zero, List.setIfInBounds_toArray, List.set_cons_zero, List.set_cons_succ]
              refine (show anyT _ _ _ _ _ _ 0 _ _ _ from ⟨by kernel_rfl, ?_⟩)
              have hU6 := Lib.hid (HU.out.keeps hk6)
              have hO6 := Lib.hid (HW5.out.keeps hk6 (fun _ _ h => h))
              clear hC HC0 hNX hRM hRR hPP hPR hSA hk0 hk2 hk3 hk4 hk5 HU
              go_wp2
              go_loopw [20] (fun uu wx => ∃ (k : Nat) (l' : List UInt8), k ≤ data.length ∧ l'.length = data.length ∧ uu = .int .i64 k ∧ BOwn wx w.heap.size (.slice oa data.length oc) l' ∧ Keeps (fun b => (Value.slice oa data.length oc).ownBlock = some b) z6 wx) (fun uu _ => data.length - (intOf uu).toNat)
              case atStart => exact ⟨0, _, Nat.zero_le _, rfl, rfl, hO6.out, Keeps.refl _ _⟩
              case round =>
                obtain ⟨k9, l9, hk9, hl9, rfl, hb9, hkx⟩ := hrel
                by_cases hkd : k9 < data.length
                · obtain ⟨h9, o9, c9, e9, -, -, -⟩ := BOwn.place hb9 (by omega)
                  simp only [Value.slice.injEq] at e9
                  obtain ⟨rfl, -, rfl⟩ := e9
                  obtain ⟨z1, z2, z3⟩ := BOwn.at hb9 k9 (by omega)
                  have Z3 := Lib.hid z3
                  clear z3
                  go_wp2
                  go_roundw
                  case rel => exact ⟨k9 + 1, l9.set k9 7, by omega, by rw [List.length_set]; exact hl9, by go_num, Z3.out 7, hkx.setCell _ _ (.inl rfl)⟩
                  case measure => simp [intOf]; omega
                · obtain rfl : k9 = data.length := by omega
                  clear hkd hk9
                  go_wp2
                  go_roundw
                  case rel => exact ⟨i + 1, next, taken, all, l, L, Q, bv, pv, _, atv, bsv, by omega, by go_num, by rw [HSS.out]; exact hU6.out.closed hkx⟩
                  case measure => simp [intOf]; omega
            · have ha0 : 0 ≤ at' := by omega
              have ha1 : at' + data.length ≤ 1000000000 := by omega
              clear hbad
              obtain ⟨D, R, hD, hD', hb25, hsc, hDr, hcase⟩ := HT.out.plain at' data (by omega)
              have hod : BRd w3 (.slice oa data.length oc) data := HO.out.bat.low
              have HP := Lib.hid (put_g HT.out at' _ data D R hod ha0 ha1 (by omega) (by omega) (by omega) hcase)
              have HPL := Lib.hid (And.intro hD (And.intro hD' (And.intro hb25 (And.intro hsc hDr))))
              clear hD hD' hb25 hsc hDr hcase hod
              go_wp2_with fail
              refine HP.out.mono ?_
              rintro e4 w4 h4
              have hk4 : Keeps (fun b => b = g ∨ bv.ownBlock = some b) w3 w4 := by
                rcases h4 with ⟨-, -, h⟩ | ⟨-, -, bv', pv', -, -, -, h, -⟩
                · exact h.mono (fun _ _ h => h.elim)
                · exact h
              obtain ⟨n4, f4, rfl⟩ : ∃ (n4 f4 : Int), e4 = .returned (.tuple #[.int .i64 n4, .int .i64 f4]) := by
                rcases h4 with ⟨-, h, -⟩ | ⟨-, h, -⟩
                · exact ⟨_, _, h⟩
                · exact ⟨_, _, h⟩
              have hq4 := HQ.out.keeps hk4 (fun e => by
                rcases e with e | e
                · exact hqg e
                · exact hqb e)
              have hd4 : BRd w4 (.slice da data.length dc) data := (HDW.out.keeps hk4 (fun b hb e => by
                rcases e with rfl | e
                · have := HT.out.gg; omega
                · have := (HT.out.ho.block b e).1; omega)).mono fun b hb => Nat.lt_of_lt_of_le hb (Nat.le_trans HT.out.hk.size hk4.size)
              have j14 : w4.cell? ⟨q, 1, none⟩ = some (.int .i64 at') := hq4.cell 1
              have j34 : w4.cell? ⟨q, 3, none⟩ = some (.slice da data.length dc) := hq4.cell 3
              have HRP := Lib.hid (rput_g HT.out hk4 at' _ data hd4 ha0 ha1 (by omega) (by omega) (by omega))
              have H4 := Lib.hid h4
              clear HP h4 hk4 hq4 hd4 j0 j1 j2 j3
              go_wp2_with fail
              refine HRP.out.mono ?_
              rintro e5 w5 h5
              obtain ⟨n5, f5, next', all', l', L', Q', bv', pv', allv', atv', bsv', he4, rfl, hT5, hk45⟩ := HT.out.putted HPL.out.1 HPL.out.2.1 HPL.out.2.2.1 HPL.out.2.2.2.1 HPL.out.2.2.2.2 (by have := HPL.out.2.2.2.2; omega) H4.out h5
              obtain ⟨rfl, rfl⟩ : n4 = (n5 : Int) ∧ f4 = f5 := by simpa using he4
              have HQ5 := Lib.hid (HQ.out.keeps hk45 (fun e => by
                rcases e with e | e | e
                · exact hqx e
                · exact hqg e
                · exact hqb e))
              have HW5 := Lib.hid (HO.out.keeps hk45 (fun b hb e => by
                obtain ⟨-, z2, -, -, -, z6, z7, -⟩ := HT.out.zb b hb
                rcases e with e | e | e
                · exact z7 e
                · exact z6 e
                · exact z2 e))
              have HD5 := Lib.hid (show BRd w5 (.slice da data.length dc) data from (HDW.out.keeps hk45 (fun b hb e => by
                rcases e with rfl | rfl | e
                · have := HT.out.gx; omega
                · have := HT.out.gg; omega
                · have := (HT.out.ho.block b e).1; omega)).mono fun b hb => Nat.lt_of_lt_of_le hb (Nat.le_trans HT.out.hk.size hk45.size))
              clear h5 he4 hk45 H4 HRP HPL HT HDW HQ HO j14 j34 ha0 ha1
              go_wp2
              generalize w5 = W5 at *
              have HU := Lib.hid hT5
              obtain ⟨aa9, ac9, hav, -, -⟩ := BOwn.slice HU.out.ha
              subst hav
              clear hT5
              generalize hWW : W5 = W8 at *
              clear hWW
              obtain ⟨N, hN⟩ : ∃ N : Nat, next' = N := ⟨_, rfl⟩
              have hAl : (all').length = N := by rw [← hN]; exact HU.out.al
              have hC0 : ∀ z, Keeps (fun _ => False) W8 z → z.cell? ⟨q, 3, none⟩ = some (.slice da data.length dc) ∧ z.cell? ⟨x, 1, none⟩ = some (.slice aa9 N ac9) ∧
                  (convert 30 9 (.slice oa data.length oc)).run Try.prog z = .ok (.string ⟨data.toArray⟩) z ∧ (convert 30 9 (.slice da data.length dc)).run Try.prog z = .ok (.string ⟨data.toArray⟩) z := fun z hz =>
                ⟨hz.cell (HQ5.out.cell 3) (fun h => h), hz.cell (by have := HU.out.hx.cell 1; rw [hAl] at this; exact this) (fun h => h), (HW5.out.keeps hz (fun _ _ h => h)).bat.text, (HD5.out.keeps hz).text⟩
              have HC0 := Lib.hid hC0
              clear hC0
              have hNX := Lib.hid (fun z hz => next_g (HU.out.keeps (W' := z) hz))
              have hRM := Lib.hid (fun z hz => room_g (HU.out.keeps (W' := z) hz) (by omega) (by omega) (by omega))
              have hRR := Lib.hid (fun z hz => rroom_g (HU.out.keeps (W' := z) hz) (by omega) (by omega) (by omega))
              have hPP := Lib.hid (fun z hz => parts_g (HU.out.keeps (W' := z) hz) (by omega) (by omega))
              have hPR := Lib.hid (fun z hz => rparts_g (HU.out.keeps (W' := z) hz) (by omega) (by omega) (by omega))
              have hLL : (L').length ≤ 1000000 := by have := HU.out.ll; omega
              have hk0 := (Keeps.refl (fun _ => False) W8).drew
              refine region_T [] (fun z => z.cell? ⟨q, 3, none⟩ = some (.slice da data.length dc) ∧ z.cell? ⟨x, 1, none⟩ = some (.slice aa9 N ac9) ∧
                  (convert 30 9 (.slice oa data.length oc)).run Try.prog z = .ok (.string ⟨data.toArray⟩) z ∧ (convert 30 9 (.slice da data.length dc)).run Try.prog z = .ok (.string ⟨data.toArray⟩) z) (by kernel_rfl) ?_
              have hC := HC0.out _ hk0
              refine anyT_take0 (i := 0) (v := ?_) rfl (by kernel_rfl) (by kernel_rfl) (by kernel_rfl) (by kernel_rfl) (by kernel_rfl) (fun _ _ _ h => h) hC (.inl ⟨by rfl, fun _ _ => ?_⟩) ?_
              rotate_left 1
              · go_simp
                try with_reducible rfl
              simp only [Act.put, List.getElem_toArray, List.getElem_cons_succ, List.getElem_cons_zero, List.setIfInBounds_toArray, List.set_cons_zero, List.set_cons_succ]
              refine anyT_take0 (i := 1) (v := ?_) rfl (by kernel_rfl) (by kernel_rfl) (by kernel_rfl) (by kernel_rfl) (by kernel_rfl) (fun _ _ _ h => h) hC (.inl ⟨by rfl, fun _ _ => ?_⟩) ?_
              rotate_left 1
              · go_simp
                try with_reducible rfl
              simp only [Act.put, List.getElem_toArray, List.getElem_cons_succ, List.getElem_cons_zero, List.setIfInBounds_toArray, List.set_cons_zero, List.set_cons_succ]
              refine anyT_take0 (i := 2) (v := ?_) rfl (by kernel_rfl) (by kernel_rfl) (by kernel_rfl) (by kernel_rfl) (by kernel_rfl) (fun _ _ _ h => h) hC (.inl ⟨by rfl, fun _ _ => ?_⟩) ?_
              rotate_left 1
              · go_simp
                try with_reducible rfl
              simp only [Act.put, List.getElem_toArray, List.getElem_cons_succ, List.getElem_cons_zero, List.setIfInBounds_toArray, List.set_cons_zero, List.set_cons_succ]
              refine anyT_take0 (i := 3) (v := ?_) rfl (by kernel_rfl) (by kernel_rfl) (by kernel_rfl) (by kernel_rfl) (by kernel_rfl) (fun _ _ _ h => h) hC (.inl ⟨by rfl, fun _ _ => ?_⟩) ?_
              rotate_left 1
              · go_simp
                try with_reducible rfl
              simp only [Act.put, List.getElem_toArray, List.getElem_cons_succ, List.getElem_cons_zero, List.setIfInBounds_toArray, List.set_cons_zero, List.set_cons_succ]
              refine anyT_takeC (i := 4) (v := ?_) rfl (by kernel_rfl) (by kernel_rfl) (by kernel_rfl) (by kernel_rfl) (by kernel_rfl) (by kernel_rfl) (fun _ _ _ h => h) hC (.inl ⟨by rfl, fun w hCw => ?_⟩) ?_
              rotate_left 1
              · dsimp only at hCw
                go_simp
                try with_reducible rfl
              simp only [Act.put, List.getElem_toArray, List.getElem_cons_succ, List.getElem_cons_zero, List.setIfInBounds_toArray, List.set_cons_zero, List.set_cons_succ]
              refine anyT_take0 (i := 5) (v := ?_) rfl (by kernel_rfl) (by kernel_rfl) (by kernel_rfl) (by kernel_rfl) (by kernel_rfl) (fun _ _ _ h => h) hC (.inl ⟨by rfl, fun _ _ => ?_⟩) ?_
              rotate_left 1
              · go_simp
                try with_reducible rfl
              simp only [Act.put, List.getElem_toArray, List.getElem_cons_succ, List.getElem_cons_zero, List.setIfInBounds_toArray, List.set_cons_zero, List.set_cons_succ]
              refine anyT_takeC (i := 6) (v := ?_) rfl (by kernel_rfl) (by kernel_rfl) (by kernel_rfl) (by kernel_rfl) (by kernel_rfl) (by kernel_rfl) (fun _ _ _ h => h) hC (.inl ⟨by rfl, fun w hCw => ?_⟩) ?_
              rotate_left 1
              · dsimp only at hCw
                go_simp
                try with_reducible rfl
              simp only [Act.put, List.getElem_toArray, List.getElem_cons_succ, List.getElem_cons_zero, List.setIfInBounds_toArray, List.set_cons_zero, List.set_cons_succ]
              refine anyT_takeC (i := 7) (v := ?_) rfl (by kernel_rfl) (by kernel_rfl) (by kernel_rfl) (by kernel_rfl) (by kernel_rfl) (by kernel_rfl) (fun _ _ _ h => h) hC (.inl ⟨by rfl, fun w hCw => ?_⟩) ?_
              rotate_left 1
              · dsimp only at hCw
                go_simp
                try with_reducible rfl
              simp only [Act.put, List.getElem_toArray, List.getElem_cons_succ, List.getElem_cons_zero, List.setIfInBounds_toArray, List.set_cons_zero, List.set_cons_succ]
              refine anyT_take0 (i := 8) (v := ?_) rfl (by kernel_rfl) (by kernel_rfl) (by kernel_rfl) (by kernel_rfl) (by kernel_rfl) (fun _ _ _ h => h) hC (.inl ⟨by rfl, fun _ _ => ?_⟩) ?_
              rotate_left 1
              · go_simp
                try with_reducible rfl
              simp only [Act.put, List.getElem_toArray, List.getElem_cons_succ, List.getElem_cons_zero, List.setIfInBounds_toArray, List.set_cons_zero, List.set_cons_succ]
              refine anyT_take0 (i := 9) (v := ?_) rfl (by kernel_rfl) (by kernel_rfl) (by kernel_rfl) (by kernel_rfl) (by kernel_rfl) (fun _ _ _ h => h) hC (.inl ⟨by rfl, fun _ _ => ?_⟩) ?_
              rotate_left 1
              · go_simp
                try with_reducible rfl
              simp only [Act.put, List.getElem_toArray, List.getElem_cons_succ, List.getElem_cons_zero, List.setIfInBounds_toArray, List.set_cons_zero, List.set_cons_succ]
              refine anyT_take0 (i := 10) (v := ?_) rfl (by kernel_rfl) (by kernel_rfl) (by kernel_rfl) (by kernel_rfl) (by kernel_rfl) (fun _ _ _ h => h) hC (.inl ⟨by rfl, fun _ _ => ?_⟩) ?_
              rotate_left 1
              · go_simp
                try with_reducible rfl
              simp only [Act.put, List.getElem_toArray, List.getElem_cons_succ, List.getElem_cons_zero, List.setIfInBounds_toArray, List.set_cons_zero, List.set_cons_succ]
              refine anyT_take0 (i := 11) (v := ?_) rfl (by kernel_rfl) (by kernel_rfl) (by kernel_rfl) (by kernel_rfl) (by kernel_rfl) (fun _ _ _ h => h) hC (.inl ⟨by rfl, fun _ _ => ?_⟩) ?_
              rotate_left 1
              · go_simp
                try with_reducible rfl
              simp only [Act.put, List.getElem_toArray, List.getElem_cons_succ, List.getElem_cons_zero, List.setIfInBounds_toArray, List.set_cons_zero, List.set_cons_succ]
              refine anyT_take0 (i := 13) (v := ?_) rfl (by kernel_rfl) (by kernel_rfl) (by kernel_rfl) (by kernel_rfl) (by kernel_rfl) (fun _ _ _ h => h) hC (.inl ⟨by rfl, fun _ _ => ?_⟩) ?_
              rotate_left 1
              · go_simp
                try with_reducible rfl
              simp only [Act.put, List.getElem_toArray, List.getElem_cons_succ, List.getElem_cons_zero, List.setIfInBounds_toArray, List.set_cons_zero, List.set_cons_succ]
              refine anyT_take0 (i := 14) (v := ?_) rfl (by kernel_rfl) (by kernel_rfl) (by kernel_rfl) (by kernel_rfl) (by kernel_rfl) (fun _ _ _ h => h) hC (.inl ⟨by rfl, fun _ _ => ?_⟩) ?_
              rotate_left 1
              · go_simp
                try with_reducible rfl
              simp only [Act.put, List.getElem_toArray, List.getElem_cons_succ, List.getElem_cons_zero, List.setIfInBounds_toArray, List.set_cons_zero, List.set_cons_succ]
              refine anyT_take0 (i := 15) (v := ?_) rfl (by kernel_rfl) (by kernel_rfl) (by kernel_rfl) (by kernel_rfl) (by kernel_rfl) (fun _ _ _ h => h) hC (.inl ⟨by rfl, fun _ _ => ?_⟩) ?_
              rotate_left 1
              · go_simp
                try with_reducible rfl
              simp only [Act.put, List.getElem_toArray, List.getElem_cons_succ, List.getElem_cons_zero, List.setIfInBounds_toArray, List.set_cons_zero, List.set_cons_succ]
              refine anyT_takeC (i := 16) (v := ?_) rfl (by kernel_rfl) (by kernel_rfl) (by kernel_rfl) (by kernel_rfl) (by kernel_rfl) (by kernel_rfl) (fun _ _ _ h => h) hC (.inl ⟨by rfl, fun w hCw => ?_⟩) ?_
              rotate_left 1
              · dsimp only at hCw
                go_simp
                try with_reducible rfl
              simp only [Act.put, List.getElem_toArray, List.getElem_cons_succ, List.getElem_cons_zero, List.setIfInBounds_toArray, List.set_cons_zero, List.set_cons_succ]
              refine anyT_take0 (i := 17) (v := ?_) rfl (by kernel_rfl) (by kernel_rfl) (by kernel_rfl) (by kernel_rfl) (by kernel_rfl) (fun _ _ _ h => h) hC (.inl ⟨by rfl, fun _ _ => ?_⟩) ?_
              rotate_left 1
              · go_simp
                try with_reducible rfl
              simp only [Act.put, List.getElem_toArray, List.getElem_cons_succ, List.getElem_cons_zero, List.setIfInBounds_toArray, List.set_cons_zero, List.set_cons_succ]
              refine anyT_force (i := 12) rfl (by kernel_rfl) (by rfl) ?_
              go_simp
              refine (hNX.out _ hk0).mono ?_
              rintro e z1 ⟨rfl, rfl⟩
              refine ⟨fun _ => hC, ?_⟩
              try simp only [Act.put, List.getElem_toArray, List.getElem_cons_succ, List.getElem_cons_zero, List.setIfInBounds_toArray, List.set_cons_zero, List.set_cons_succ]
              rw [hN]
              refine anyT_take0 (i := 18) (v := ?_) rfl (by kernel_rfl) (by kernel_rfl) (by kernel_rfl) (by kernel_rfl) (by kernel_rfl) (fun _ _ _ h => h) hC (.inl ⟨by rfl, fun _ _ => ?_⟩) ?_
              rotate_left 1
              · go_simp
                try with_reducible rfl
              simp only [Act.put, List.getElem_toArray, List.getElem_cons_succ, List.getElem_cons_zero, List.setIfInBounds_toArray, List.set_cons_zero, List.set_cons_succ]
              refine anyT_take0 (i := 19) (v := ?_) rfl (by kernel_rfl) (by kernel_rfl) (by kernel_rfl) (by kernel_rfl) (by kernel_rfl) (fun _ _ _ h => h) hC (.inl ⟨by rfl, fun _ _ => ?_⟩) ?_
              rotate_left 1
              · go_simp
                try with_reducible rfl
              simp only [Act.put, List.getElem_toArray, List.getElem_cons_succ, List.getElem_cons_zero, List.setIfInBounds_toArray, List.set_cons_zero, List.set_cons_succ]
              refine anyT_take0 (i := 20) (v := ?_) rfl (by kernel_rfl) (by kernel_rfl) (by kernel_rfl) (by kernel_rfl) (by kernel_rfl) (fun _ _ _ h => h) hC (.inl ⟨by rfl, fun _ _ => ?_⟩) ?_
              rotate_left 1
              · go_simp
                try with_reducible rfl
              simp only [Act.put, List.getElem_toArray, List.getElem_cons_succ, List.getElem_cons_zero, List.setIfInBounds_toArray, List.set_cons_zero, List.set_cons_succ]
              refine anyT_take0 (i := 21) (v := ?_) rfl (by kernel_rfl) (by kernel_rfl) (by kernel_rfl) (by kernel_rfl) (by kernel_rfl) (fun _ _ _ h => h) hC (.inl ⟨by rfl, fun _ _ => ?_⟩) ?_
              rotate_left 1
              · go_simp
                try with_reducible rfl
              simp only [Act.put, List.getElem_toArray, List.getElem_cons_succ, List.getElem_cons_zero, List.setIfInBounds_toArray, List.set_cons_zero, List.set_cons_succ]
              refine anyT_take0 (i := 23) (v := ?_) rfl (by kernel_rfl) (by kernel_rfl) (by kernel_rfl) (by kernel_rfl) (by kernel_rfl) (fun _ _ _ h => h) hC (.inl ⟨by rfl, fun _ _ => ?_⟩) ?_
              rotate_left 1
              · go_simp
                try with_reducible rfl
              simp only [Act.put, List.getElem_toArray, List.getElem_cons_succ, List.getElem_cons_zero, List.setIfInBounds_toArray, List.set_cons_zero, List.set_cons_succ]
              refine anyT_force (i := 22) rfl (by kernel_rfl) (by rfl) ?_
              go_simp
              refine (hRM.out _ hk0).mono ?_
              rintro e z2 ⟨rfl, hz2⟩
              have hk2 : Keeps (fun _ => False) W8 z2 := by obtain ⟨m2, rfl⟩ := hz2; exact hk0.drewN m2
              clear hC hz2
              have hC := HC0.out _ hk2
              refine ⟨fun _ => hC, ?_⟩
              try simp only [Act.put, List.getElem_toArray, List.getElem_cons_succ, List.getElem_cons_zero, List.setIfInBounds_toArray, List.set_cons_zero, List.set_cons_succ]
              refine anyT_force (i := 24) rfl (by kernel_rfl) (by rfl) ?_
              go_simp
              refine (hRR.out _ hk2).mono ?_
              rintro e z3 ⟨rfl, hz3⟩
              have hk3 : Keeps (fun _ => False) W8 z3 := by obtain ⟨m3, rfl⟩ := hz3; exact hk2.drewN m3
              clear hC hz3
              have hC := HC0.out _ hk3
              refine ⟨fun _ => hC, ?_⟩
              try simp only [Act.put, List.getElem_toArray, List.getElem_cons_succ, List.getElem_cons_zero, List.setIfInBounds_toArray, List.set_cons_zero, List.set_cons_succ]
              refine anyT_take0 (i := 25) (v := ?_) rfl (by kernel_rfl) (by kernel_rfl) (by kernel_rfl) (by kernel_rfl) (by kernel_rfl) (fun _ _ _ h => h) hC (.inl ⟨by rfl, fun _ _ => ?_⟩) ?_
              rotate_left 1
              · go_simp
                try with_reducible rfl
              simp only [Act.put, List.getElem_toArray, List.getElem_cons_succ, List.getElem_cons_zero, List.setIfInBounds_toArray, List.set_cons_zero, List.set_cons_succ]
              refine anyT_take0 (i := 26) (v := ?_) rfl (by kernel_rfl) (by kernel_rfl) (by kernel_rfl) (by kernel_rfl) (by kernel_rfl) (fun _ _ _ h => h) hC (.inl ⟨by rfl, fun _ _ => ?_⟩) ?_
              rotate_left 1
              · go_simp
                try with_reducible rfl
              simp only [Act.put, List.getElem_toArray, List.getElem_cons_succ, List.getElem_cons_zero, List.setIfInBounds_toArray, List.set_cons_zero, List.set_cons_succ]
              refine anyT_take0 (i := 27) (v := ?_) rfl (by kernel_rfl) (by kernel_rfl) (by kernel_rfl) (by kernel_rfl) (by kernel_rfl) (fun _ _ _ h => h) hC (.inl ⟨by rfl, fun _ _ => ?_⟩) ?_
              rotate_left 1
              · go_simp
                try with_reducible rfl
              simp only [Act.put, List.getElem_toArray, List.getElem_cons_succ, List.getElem_cons_zero, List.setIfInBounds_toArray, List.set_cons_zero, List.set_cons_succ]
              refine anyT_take0 (i := 28) (v := ?_) rfl (by kernel_rfl) (by kernel_rfl) (by kernel_rfl) (by kernel_rfl) (by kernel_rfl) (fun _ _ _ h => h) hC (.inl ⟨by rfl, fun _ _ => ?_⟩) ?_
              rotate_left 1
              · go_simp
                try with_reducible rfl
              simp only [Act.put, List.getElem_toArray, List.getElem_cons_succ, List.getElem_cons_zero, List.setIfInBounds_toArray, List.set_cons_zero, List.set_cons_succ]
              refine anyT_take0 (i := 30) (v := ?_) rfl (by kernel_rfl) (by kernel_rfl) (by kernel_rfl) (by kernel_rfl) (by kernel_rfl) (fun _ _ _ h => h) hC (.inl ⟨by rfl, fun _ _ => ?_⟩) ?_
              rotate_left 1
              · go_simp
                try with_reducible rfl
              simp only [Act.put, List.getElem_toArray, List.getElem_cons_succ, List.getElem_cons_zero, List.setIfInBounds_toArray, List.set_cons_zero, List.set_cons_succ]
              refine anyT_force (i := 29) rfl (by kernel_rfl) (by rfl) ?_
              go_simp
              refine (hPP.out _ hk3).mono ?_
              rintro e z4 ⟨vp, rfl, hTp, hkp⟩
              have hk4 := hk3.trans hkp (fun _ _ h => h)
              clear hC
              have hC := HC0.out _ hk4
              refine ⟨fun _ => hC, ?_⟩
              try simp only [Act.put, List.getElem_toArray, List.getElem_cons_succ, List.getElem_cons_zero, List.setIfInBounds_toArray, List.set_cons_zero, List.set_cons_succ]
              refine anyT_force (i := 31) rfl (by kernel_rfl) (by rfl) ?_
              go_simp
              refine (hPR.out _ hk4).mono ?_
              rintro e z5 ⟨vq, rfl, hTq, hkq⟩
              have hk5 := hk4.trans hkq (fun _ _ h => h)
              have hTp5 := hTp.keeps hkq (fun _ _ h => h)
              clear hC
              have hC := HC0.out _ hk5
              refine ⟨fun _ => hC, ?_⟩
              try simp only [Act.put, List.getElem_toArray, List.getElem_cons_succ, List.getElem_cons_zero, List.setIfInBounds_toArray, List.set_cons_zero, List.set_cons_succ]
              have hSA := Lib.hid (same_any _ _ vp vq _ z5 hTp5 hTq hLL)
              clear hTp hTp5 hTq hkp hkq
              refine anyT_force (i := 32) rfl (by kernel_rfl) (by rfl) ?_
              go_simp
              refine (hSA.out).mono ?_
              rintro e z6 ⟨rfl, hz6⟩
              have hk6 : Keeps (fun _ => False) W8 z6 := by obtain ⟨m6, rfl⟩ := hz6; exact hk5.drewN m6
              clear hC hz6
              have hC := HC0.out _ hk6
              refine ⟨fun _ => hC, ?_⟩
              try simp only [Act.put, List.getElem_toArray, List.getElem_cons_succ, List.getElem_cons_zero, List.setIfInBounds_toArray, List.set_cons_zero, List.set_cons_succ]
              refine anyT_take0 (i := 33) (v := ?_) rfl (by kernel_rfl) (by kernel_rfl) (by kernel_rfl) (by kernel_rfl) (by kernel_rfl) (fun _ _ _ h => h) hC (.inl ⟨by rfl, fun _ _ => ?_⟩) ?_
              rotate_left 1
              · go_simp
                try with_reducible rfl
              simp only [Act.put, List.getElem_toArray, List.getElem_cons_succ, List.getElem_cons_zero, List.setIfInBounds_toArray, List.set_cons_zero, List.set_cons_succ]
              refine anyT_take0 (i := 34) (v := ?_) rfl (by kernel_rfl) (by kernel_rfl) (by kernel_rfl) (by kernel_rfl) (by kernel_rfl) (fun _ _ _ h => h) hC (.inl ⟨by rfl, fun _ _ => ?_⟩) ?_
              rotate_left 1
              · go_simp
                try with_reducible rfl
              simp only [Act.put, List.getElem_toArray, List.getElem_cons_succ, List.getElem_cons_zero, List.setIfInBounds_toArray, List.set_cons_zero, List.set_cons_succ]
              refine (show anyT _ _ _ _ _ _ 0 _ _ _ from ⟨by kernel_rfl, ?_⟩)
              have hU6 := Lib.hid (HU.out.keeps hk6)
              have hO6 := Lib.hid (HW5.out.keeps hk6 (fun _ _ h => h))
              clear hC HC0 hNX hRM hRR hPP hPR hSA hk0 hk2 hk3 hk4 hk5 HU
              go_wp2
              go_loopw [20] (fun uu wx => ∃ (k : Nat) (l' : List UInt8), k ≤ data.length ∧ l'.length = data.length ∧ uu = .int .i64 k ∧ BOwn wx w.heap.size (.slice oa data.length oc) l' ∧ Keeps (fun b => (Value.slice oa data.length oc).ownBlock = some b) z6 wx) (fun uu _ => data.length - (intOf uu).toNat)
              case atStart => exact ⟨0, _, Nat.zero_le _, rfl, rfl, hO6.out, Keeps.refl _ _⟩
              case round =>
                obtain ⟨k9, l9, hk9, hl9, rfl, hb9, hkx⟩ := hrel
                by_cases hkd : k9 < data.length
                · obtain ⟨h9, o9, c9, e9, -, -, -⟩ := BOwn.place hb9 (by omega)
                  simp only [Value.slice.injEq] at e9
                  obtain ⟨rfl, -, rfl⟩ := e9
                  obtain ⟨z1, z2, z3⟩ := BOwn.at hb9 k9 (by omega)
                  have Z3 := Lib.hid z3
                  clear z3
                  go_wp2
                  go_roundw
                  case rel => exact ⟨k9 + 1, l9.set k9 7, by omega, by rw [List.length_set]; exact hl9, by go_num, Z3.out 7, hkx.setCell _ _ (.inl rfl)⟩
                  case measure => simp [intOf]; omega
                · obtain rfl : k9 = data.length := by omega
                  clear hkd hk9
                  go_wp2
                  go_roundw
                  case rel => exact ⟨i + 1, next', taken, all', l', L', Q', bv', pv', _, atv', bsv', by omega, by go_num, by rw [HSS.out]; exact hU6.out.closed hkx⟩
                  case measure => simp [intOf]; omega
          · by_cases hn0 : n < 0
            · clear fc1 fc2
              have HP := Lib.hid (read_bad g n w3 hn0)
              have HRP := Lib.hid (rread_bad x n w3 hn0)
              go_wp2_with fail
              refine HP.out.mono ?_
              rintro e w4 ⟨rfl, rfl⟩
              go_wp2_with fail
              refine HRP.out.mono ?_
              rintro e w5 ⟨rfl, rfl⟩
              have hT5 := HT.out.more (data.length + 300)
              have HQ5 := HQ
              have HW5 := HO
              have HD5 := Lib.hid (show BRd w3 (.slice da data.length dc) data from HDW.out.mono fun b hb => Nat.lt_of_lt_of_le hb HT.out.hk.size)
              have tN := (BAt.nil w3 (fun _ => True)).text
              clear HP HRP HT HDW HQ HO j0 j1 j2 j3
              go_wp2
              clear tN
              generalize w3 = W5 at *
              have HU := Lib.hid hT5
              obtain ⟨aa9, ac9, hav, -, -⟩ := BOwn.slice HU.out.ha
              subst hav
              clear hT5
              generalize hWW : W5 = W8 at *
              clear hWW
              obtain ⟨N, hN⟩ : ∃ N : Nat, next = N := ⟨_, rfl⟩
              have hAl : (all).length = N := by rw [← hN]; exact HU.out.al
              have hC0 : ∀ z, Keeps (fun _ => False) W8 z → z.cell? ⟨q, 3, none⟩ = some (.slice da data.length dc) ∧ z.cell? ⟨x, 1, none⟩ = some (.slice aa9 N ac9) ∧
                  (convert 30 9 (.slice oa data.length oc)).run Try.prog z = .ok (.string ⟨data.toArray⟩) z ∧ (convert 30 9 (.slice da data.length dc)).run Try.prog z = .ok (.string ⟨data.toArray⟩) z := fun z hz =>
                ⟨hz.cell (HQ5.out.cell 3) (fun h => h), hz.cell (by have := HU.out.hx.cell 1; rw [hAl] at this; exact this) (fun h => h), (HW5.out.keeps hz (fun _ _ h => h)).bat.text, (HD5.out.keeps hz).text⟩
              have HC0 := Lib.hid hC0
              clear hC0
              have hNX := Lib.hid (fun z hz => next_g (HU.out.keeps (W' := z) hz))
              have hRM := Lib.hid (fun z hz => room_g (HU.out.keeps (W' := z) hz) (by omega) (by omega) (by omega))
              have hRR := Lib.hid (fun z hz => rroom_g (HU.out.keeps (W' := z) hz) (by omega) (by omega) (by omega))
              have hPP := Lib.hid (fun z hz => parts_g (HU.out.keeps (W' := z) hz) (by omega) (by omega))
              have hPR := Lib.hid (fun z hz => rparts_g (HU.out.keeps (W' := z) hz) (by omega) (by omega) (by omega))
              have hLL : (L).length ≤ 1000000 := by have := HU.out.ll; omega
              have hk0 := (Keeps.refl (fun _ => False) W8).drew
              refine region_T [] (fun z => z.cell? ⟨q, 3, none⟩ = some (.slice da data.length dc) ∧ z.cell? ⟨x, 1, none⟩ = some (.slice aa9 N ac9) ∧
                  (convert 30 9 (.slice oa data.length oc)).run Try.prog z = .ok (.string ⟨data.toArray⟩) z ∧ (convert 30 9 (.slice da data.length dc)).run Try.prog z = .ok (.string ⟨data.toArray⟩) z) (by kernel_rfl) ?_
              have hC := HC0.out _ hk0
              refine anyT_take0 (i := 0) (v := ?_) rfl (by kernel_rfl) (by kernel_rfl) (by kernel_rfl) (by kernel_rfl) (by kernel_rfl) (fun _ _ _ h => h) hC (.inl ⟨by rfl, fun _ _ => ?_⟩) ?_
              rotate_left 1
              · go_simp
                try with_reducible rfl
              simp only [Act.put, List.getElem_toArray, List.getElem_cons_succ, List.getElem_cons_zero, List.setIfInBounds_toArray, List.set_cons_zero, List.set_cons_succ]
              refine anyT_take0 (i := 1) (v := ?_) rfl (by kernel_rfl) (by kernel_rfl) (by kernel_rfl) (by kernel_rfl) (by kernel_rfl) (fun _ _ _ h => h) hC (.inl ⟨by rfl, fun _ _ => ?_⟩) ?_
              rotate_left 1
              · go_simp
                try with_reducible rfl
              simp only [Act.put, List.getElem_toArray, List.getElem_cons_succ, List.getElem_cons_zero, List.setIfInBounds_toArray, List.set_cons_zero, List.set_cons_succ]
              refine anyT_take0 (i := 2) (v := ?_) rfl (by kernel_rfl) (by kernel_rfl) (by kernel_rfl) (by kernel_rfl) (by kernel_rfl) (fun _ _ _ h => h) hC (.inl ⟨by rfl, fun _ _ => ?_⟩) ?_
              rotate_left 1
              · go_simp
                try with_reducible rfl
              simp only [Act.put, List.getElem_toArray, List.getElem_cons_succ, List.getElem_cons_zero, List.setIfInBounds_toArray, List.set_cons_zero, List.set_cons_succ]
              refine anyT_take0 (i := 3) (v := ?_) rfl (by kernel_rfl) (by kernel_rfl) (by kernel_rfl) (by kernel_rfl) (by kernel_rfl) (fun _ _ _ h => h) hC (.inl ⟨by rfl, fun _ _ => ?_⟩) ?_
              rotate_left 1
              · go_simp
                try with_reducible rfl
              simp only [Act.put, List.getElem_toArray, List.getElem_cons_succ, List.getElem_cons_zero, List.setIfInBounds_toArray, List.set_cons_zero, List.set_cons_succ]
              refine anyT_takeC (i := 4) (v := ?_) rfl (by kernel_rfl) (by kernel_rfl) (by kernel_rfl) (by kernel_rfl) (by kernel_rfl) (by kernel_rfl) (fun _ _ _ h => h) hC (.inl ⟨by rfl, fun w hCw => ?_⟩) ?_
              rotate_left 1
              · dsimp only at hCw
                go_simp
                try with_reducible rfl
              simp only [Act.put, List.getElem_toArray, List.getElem_cons_succ, List.getElem_cons_zero, List.setIfInBounds_toArray, List.set_cons_zero, List.set_cons_succ]
              refine anyT_take0 (i := 5) (v := ?_) rfl (by kernel_rfl) (by kernel_rfl) (by kernel_rfl) (by kernel_rfl) (by kernel_rfl) (fun _ _ _ h => h) hC (.inl ⟨by rfl, fun _ _ => ?_⟩) ?_
              rotate_left 1
              · go_simp
                try with_reducible rfl
              simp only [Act.put, List.getElem_toArray, List.getElem_cons_succ, List.getElem_cons_zero, List.setIfInBounds_toArray, List.set_cons_zero, List.set_cons_succ]
              refine anyT_takeC (i := 6) (v := ?_) rfl (by kernel_rfl) (by kernel_rfl) (by kernel_rfl) (by kernel_rfl) (by kernel_rfl) (by kernel_rfl) (fun _ _ _ h => h) hC (.inl ⟨by rfl, fun w hCw => ?_⟩) ?_
              rotate_left 1
              · dsimp only at hCw
                go_simp
                try with_reducible rfl
              simp only [Act.put, List.getElem_toArray, List.getElem_cons_succ, List.getElem_cons_zero, List.setIfInBounds_toArray, List.set_cons_zero, List.set_cons_succ]
              refine anyT_takeC (i := 7) (v := ?_) rfl (by kernel_rfl) (by kernel_rfl) (by kernel_rfl) (by kernel_rfl) (by kernel_rfl) (by kernel_rfl) (fun _ _ _ h => h) hC (.inl ⟨by rfl, fun w hCw => ?_⟩) ?_
              rotate_left 1
              · dsimp only at hCw
                go_simp
                try with_reducible rfl
              simp only [Act.put, List.getElem_toArray, List.getElem_cons_succ, List.getElem_cons_zero, List.setIfInBounds_toArray, List.set_cons_zero, List.set_cons_succ]
              refine anyT_take0 (i := 8) (v := ?_) rfl (by kernel_rfl) (by kernel_rfl) (by kernel_rfl) (by kernel_rfl) (by kernel_rfl) (fun _ _ _ h => h) hC (.inl ⟨by rfl, fun _ _ => ?_⟩) ?_
              rotate_left 1
              · go_simp
                try with_reducible rfl
              simp only [Act.put, List.getElem_toArray, List.getElem_cons_succ, List.getElem_cons_zero, List.setIfInBounds_toArray, List.set_cons_zero, List.set_cons_succ]
              refine anyT_take0 (i := 9) (v := ?_) rfl (by kernel_rfl) (by kernel_rfl) (by kernel_rfl) (by kernel_rfl) (by kernel_rfl) (fun _ _ _ h => h) hC (.inl ⟨by rfl, fun _ _ => ?_⟩) ?_
              rotate_left 1
              · go_simp
                try with_reducible rfl
              simp only [Act.put, List.getElem_toArray, List.getElem_cons_succ, List.getElem_cons_zero, List.setIfInBounds_toArray, List.set_cons_zero, List.set_cons_succ]
              refine anyT_take0 (i := 10) (v := ?_) rfl (by kernel_rfl) (by kernel_rfl) (by kernel_rfl) (by kernel_rfl) (by kernel_rfl) (fun _ _ _ h => h) hC (.inl ⟨by rfl, fun _ _ => ?_⟩) ?_
              rotate_left 1
              · go_simp
                try with_reducible rfl
              simp only [Act.put, List.getElem_toArray, List.getElem_cons_succ, List.getElem_cons_zero, List.setIfInBounds_toArray, List.set_cons_zero, List.set_cons_succ]
              refine anyT_take0 (i := 11) (v := ?_) rfl (by kernel_rfl) (by kernel_rfl) (by kernel_rfl) (by kernel_rfl) (by kernel_rfl) (fun _ _ _ h => h) hC (.inl ⟨by rfl, fun _ _ => ?_⟩) ?_
              rotate_left 1
              · go_simp
                try with_reducible rfl
              simp only [Act.put, List.getElem_toArray, List.getElem_cons_succ, List.getElem_cons_zero, List.setIfInBounds_toArray, List.set_cons_zero, List.set_cons_succ]
              refine anyT_take0 (i := 13) (v := ?_) rfl (by kernel_rfl) (by kernel_rfl) (by kernel_rfl) (by kernel_rfl) (by kernel_rfl) (fun _ _ _ h => h) hC (.inl ⟨by rfl, fun _ _ => ?_⟩) ?_
              rotate_left 1
              · go_simp
                try with_reducible rfl
              simp only [Act.put, List.getElem_toArray, List.getElem_cons_succ, List.getElem_cons_zero, List.setIfInBounds_toArray, List.set_cons_zero, List.set_cons_succ]
              refine anyT_take0 (i := 14) (v := ?_) rfl (by kernel_rfl) (by kernel_rfl) (by kernel_rfl) (by kernel_rfl) (by kernel_rfl) (fun _ _ _ h => h) hC (.inl ⟨by rfl, fun _ _ => ?_⟩) ?_
              rotate_left 1
              · go_simp
                try with_reducible rfl
              simp only [Act.put, List.getElem_toArray, List.getElem_cons_succ, List.getElem_cons_zero, List.setIfInBounds_toArray, List.set_cons_zero, List.set_cons_succ]
              refine anyT_take0 (i := 15) (v := ?_) rfl (by kernel_rfl) (by kernel_rfl) (by kernel_rfl) (by kernel_rfl) (by kernel_rfl) (fun _ _ _ h => h) hC (.inl ⟨by rfl, fun _ _ => ?_⟩) ?_
              rotate_left 1
              · go_simp
                try with_reducible rfl
              simp only [Act.put, List.getElem_toArray, List.getElem_cons_succ, List.getElem_cons_zero, List.setIfInBounds_toArray, List.set_cons_zero, List.set_cons_succ]
              refine anyT_takeC (i := 16) (v := ?_) rfl (by kernel_rfl) (by kernel_rfl) (by kernel_rfl) (by kernel_rfl) (by kernel_rfl) (by kernel_rfl) (fun _ _ _ h => h) hC (.inl ⟨by rfl, fun w hCw => ?_⟩) ?_
              rotate_left 1
              · dsimp only at hCw
                go_simp
                try with_reducible rfl
              simp only [Act.put, List.getElem_toArray, List.getElem_cons_succ, List.getElem_cons_zero, List.setIfInBounds_toArray, List.set_cons_zero, List.set_cons_succ]
              refine anyT_take0 (i := 17) (v := ?_) rfl (by kernel_rfl) (by kernel_rfl) (by kernel_rfl) (by kernel_rfl) (by kernel_rfl) (fun _ _ _ h => h) hC (.inl ⟨by rfl, fun _ _ => ?_⟩) ?_
              rotate_left 1
              · go_simp
                try with_reducible rfl
              simp only [Act.put, List.getElem_toArray, List.getElem_cons_succ, List.getElem_cons_zero, List.setIfInBounds_toArray, List.set_cons_zero, List.set_cons_succ]
              refine anyT_force (i := 12) rfl (by kernel_rfl) (by rfl) ?_
              go_simp
              refine (hNX.out _ hk0).mono ?_
              rintro e z1 ⟨rfl, rfl⟩
              refine ⟨fun _ => hC, ?_⟩
              try simp only [Act.put, List.getElem_toArray, List.getElem_cons_succ, List.getElem_cons_zero, List.setIfInBounds_toArray, List.set_cons_zero, List.set_cons_succ]
              rw [hN]
              refine anyT_take0 (i := 18) (v := ?_) rfl (by kernel_rfl) (by kernel_rfl) (by kernel_rfl) (by kernel_rfl) (by kernel_rfl) (fun _ _ _ h => h) hC (.inl ⟨by rfl, fun _ _ => ?_⟩) ?_
              rotate_left 1
              · go_simp
                try with_reducible rfl
              simp only [Act.put, List.getElem_toArray, List.getElem_cons_succ, List.getElem_cons_zero, List.setIfInBounds_toArray, List.set_cons_zero, List.set_cons_succ]
              refine anyT_take0 (i := 19) (v := ?_) rfl (by kernel_rfl) (by kernel_rfl) (by kernel_rfl) (by kernel_rfl) (by kernel_rfl) (fun _ _ _ h => h) hC (.inl ⟨by rfl, fun _ _ => ?_⟩) ?_
              rotate_left 1
              · go_simp
                try with_reducible rfl
              simp only [Act.put, List.getElem_toArray, List.getElem_cons_succ, List.getElem_cons_zero, List.setIfInBounds_toArray, List.set_cons_zero, List.set_cons_succ]
              refine anyT_take0 (i := 20) (v := ?_) rfl (by kernel_rfl) (by kernel_rfl) (by kernel_rfl) (by kernel_rfl) (by kernel_rfl) (fun _ _ _ h => h) hC (.inl ⟨by rfl, fun _ _ => ?_⟩) ?_
              rotate_left 1
              · go_simp
                try with_reducible rfl
              simp only [Act.put, List.getElem_toArray, List.getElem_cons_succ, List.getElem_cons_zero, List.setIfInBounds_toArray, List.set_cons_zero, List.set_cons_succ]
              refine anyT_take0 (i := 21) (v := ?_) rfl (by kernel_rfl) (by kernel_rfl) (by kernel_rfl) (by kernel_rfl) (by kernel_rfl) (fun _ _ _ h => h) hC (.inl ⟨by rfl, fun _ _ => ?_⟩) ?_
              rotate_left 1
              · go_simp
                try with_reducible rfl
              simp only [Act.put, List.getElem_toArray, List.getElem_cons_succ, List.getElem_cons_zero, List.setIfInBounds_toArray, List.set_cons_zero, List.set_cons_succ]
              refine anyT_take0 (i := 23) (v := ?_) rfl (by kernel_rfl) (by kernel_rfl) (by kernel_rfl) (by kernel_rfl) (by kernel_rfl) (fun _ _ _ h => h) hC (.inl ⟨by rfl, fun _ _ => ?_⟩) ?_
              rotate_left 1
              · go_simp
                try with_reducible rfl
              simp only [Act.put, List.getElem_toArray, List.getElem_cons_succ, List.getElem_cons_zero, List.setIfInBounds_toArray, List.set_cons_zero, List.set_cons_succ]
              refine anyT_force (i := 22) rfl (by kernel_rfl) (by rfl) ?_
              go_simp
              refine (hRM.out _ hk0).mono ?_
              rintro e z2 ⟨rfl, hz2⟩
              have hk2 : Keeps (fun _ => False) W8 z2 := by obtain ⟨m2, rfl⟩ := hz2; exact hk0.drewN m2
              clear hC hz2
              have hC := HC0.out _ hk2
              refine ⟨fun _ => hC, ?_⟩
              try simp only [Act.put, List.getElem_toArray, List.getElem_cons_succ, List.getElem_cons_zero, List.setIfInBounds_toArray, List.set_cons_zero, List.set_cons_succ]
              refine anyT_force (i := 24) rfl (by kernel_rfl) (by rfl) ?_
              go_simp
              refine (hRR.out _ hk2).mono ?_
              rintro e z3 ⟨rfl, hz3⟩
              have hk3 : Keeps (fun _ => False) W8 z3 := by obtain ⟨m3, rfl⟩ := hz3; exact hk2.drewN m3
              clear hC hz3
              have hC := HC0.out _ hk3
              refine ⟨fun _ => hC, ?_⟩
              try simp only [Act.put, List.getElem_toArray, List.getElem_cons_succ, List.getElem_cons_zero, List.setIfInBounds_toArray, List.set_cons_zero, List.set_cons_succ]
              refine anyT_take0 (i := 25) (v := ?_) rfl (by kernel_rfl) (by kernel_rfl) (by kernel_rfl) (by kernel_rfl) (by kernel_rfl) (fun _ _ _ h => h) hC (.inl ⟨by rfl, fun _ _ => ?_⟩) ?_
              rotate_left 1
              · go_simp
                try with_reducible rfl
              simp only [Act.put, List.getElem_toArray, List.getElem_cons_succ, List.getElem_cons_zero, List.setIfInBounds_toArray, List.set_cons_zero, List.set_cons_succ]
              refine anyT_take0 (i := 26) (v := ?_) rfl (by kernel_rfl) (by kernel_rfl) (by kernel_rfl) (by kernel_rfl) (by kernel_rfl) (fun _ _ _ h => h) hC (.inl ⟨by rfl, fun _ _ => ?_⟩) ?_
              rotate_left 1
              · go_simp
                try with_reducible rfl
              simp only [Act.put, List.getElem_toArray, List.getElem_cons_succ, List.getElem_cons_zero, List.setIfInBounds_toArray, List.set_cons_zero, List.set_cons_succ]
              refine anyT_take0 (i := 27) (v := ?_) rfl (by kernel_rfl) (by kernel_rfl) (by kernel_rfl) (by kernel_rfl) (by kernel_rfl) (fun _ _ _ h => h) hC (.inl ⟨by rfl, fun _ _ => ?_⟩) ?_
              rotate_left 1
              · go_simp
                try with_reducible rfl
              simp only [Act.put, List.getElem_toArray, List.getElem_cons_succ, List.getElem_cons_zero, List.setIfInBounds_toArray, List.set_cons_zero, List.set_cons_succ]
              refine anyT_take0 (i := 28) (v := ?_) rfl (by kernel_rfl) (by kernel_rfl) (by kernel_rfl) (by kernel_rfl) (by kernel_rfl) (fun _ _ _ h => h) hC (.inl ⟨by rfl, fun _ _ => ?_⟩) ?_
              rotate_left 1
              · go_simp
                try with_reducible rfl
              simp only [Act.put, List.getElem_toArray, List.getElem_cons_succ, List.getElem_cons_zero, List.setIfInBounds_toArray, List.set_cons_zero, List.set_cons_succ]
              refine anyT_take0 (i := 30) (v := ?_) rfl (by kernel_rfl) (by kernel_rfl) (by kernel_rfl) (by kernel_rfl) (by kernel_rfl) (fun _ _ _ h => h) hC (.inl ⟨by rfl, fun _ _ => ?_⟩) ?_
              rotate_left 1
              · go_simp
                try with_reducible rfl
              simp only [Act.put, List.getElem_toArray, List.getElem_cons_succ, List.getElem_cons_zero, List.setIfInBounds_toArray, List.set_cons_zero, List.set_cons_succ]
              refine anyT_force (i := 29) rfl (by kernel_rfl) (by rfl) ?_
              go_simp
              refine (hPP.out _ hk3).mono ?_
              rintro e z4 ⟨vp, rfl, hTp, hkp⟩
              have hk4 := hk3.trans hkp (fun _ _ h => h)
              clear hC
              have hC := HC0.out _ hk4
              refine ⟨fun _ => hC, ?_⟩
              try simp only [Act.put, List.getElem_toArray, List.getElem_cons_succ, List.getElem_cons_zero, List.setIfInBounds_toArray, List.set_cons_zero, List.set_cons_succ]
              refine anyT_force (i := 31) rfl (by kernel_rfl) (by rfl) ?_
              go_simp
              refine (hPR.out _ hk4).mono ?_
              rintro e z5 ⟨vq, rfl, hTq, hkq⟩
              have hk5 := hk4.trans hkq (fun _ _ h => h)
              have hTp5 := hTp.keeps hkq (fun _ _ h => h)
              clear hC
              have hC := HC0.out _ hk5
              refine ⟨fun _ => hC, ?_⟩
              try simp only [Act.put, List.getElem_toArray, List.getElem_cons_succ, List.getElem_cons_zero, List.setIfInBounds_toArray, List.set_cons_zero, List.set_cons_succ]
              have hSA := Lib.hid (same_any _ _ vp vq _ z5 hTp5 hTq hLL)
              clear hTp hTp5 hTq hkp hkq
              refine anyT_force (i := 32) rfl (by kernel_rfl) (by rfl) ?_
              go_simp
              refine (hSA.out).mono ?_
              rintro e z6 ⟨rfl, hz6⟩
              have hk6 : Keeps (fun _ => False) W8 z6 := by obtain ⟨m6, rfl⟩ := hz6; exact hk5.drewN m6
              clear hC hz6
              have hC := HC0.out _ hk6
              refine ⟨fun _ => hC, ?_⟩
              try simp only [Act.put, List.getElem_toArray, List.getElem_cons_succ, List.getElem_cons_zero, List.setIfInBounds_toArray, List.set_cons_zero, List.set_cons_succ]
              refine anyT_take0 (i := 33) (v := ?_) rfl (by kernel_rfl) (by kernel_rfl) (by kernel_rfl) (by kernel_rfl) (by kernel_rfl) (fun _ _ _ h => h) hC (.inl ⟨by rfl, fun _ _ => ?_⟩) ?_
              rotate_left 1
              · go_simp
                try with_reducible rfl
              simp only [Act.put, List.getElem_toArray, List.getElem_cons_succ, List.getElem_cons_zero, List.setIfInBounds_toArray, List.set_cons_zero, List.set_cons_succ]
              refine anyT_take0 (i := 34) (v := ?_) rfl (by kernel_rfl) (by kernel_rfl) (by kernel_rfl) (by kernel_rfl) (by kernel_rfl) (fun _ _ _ h => h) hC (.inl ⟨by rfl, fun _ _ => ?_⟩) ?_
              rotate_left 1
              · go_simp
                try with_reducible rfl
              simp only [Act.put, List.getElem_toArray, List.getElem_cons_succ, List.getElem_cons_zero, List.setIfInBounds_toArray, List.set_cons_zero, List.set_cons_succ]
              refine (show anyT _ _ _ _ _ _ 0 _ _ _ from ⟨by kernel_rfl, ?_⟩)
              have hU6 := Lib.hid (HU.out.keeps hk6)
              have hO6 := Lib.hid (HW5.out.keeps hk6 (fun _ _ h => h))
              clear hC HC0 hNX hRM hRR hPP hPR hSA hk0 hk2 hk3 hk4 hk5 HU
              go_wp2
              go_loopw [20] (fun uu wx => ∃ (k : Nat) (l' : List UInt8), k ≤ data.length ∧ l'.length = data.length ∧ uu = .int .i64 k ∧ BOwn wx w.heap.size (.slice oa data.length oc) l' ∧ Keeps (fun b => (Value.slice oa data.length oc).ownBlock = some b) z6 wx) (fun uu _ => data.length - (intOf uu).toNat)
              case atStart => exact ⟨0, _, Nat.zero_le _, rfl, rfl, hO6.out, Keeps.refl _ _⟩
              case round =>
                obtain ⟨k9, l9, hk9, hl9, rfl, hb9, hkx⟩ := hrel
                by_cases hkd : k9 < data.length
                · obtain ⟨h9, o9, c9, e9, -, -, -⟩ := BOwn.place hb9 (by omega)
                  simp only [Value.slice.injEq] at e9
                  obtain ⟨rfl, -, rfl⟩ := e9
                  obtain ⟨z1, z2, z3⟩ := BOwn.at hb9 k9 (by omega)
                  have Z3 := Lib.hid z3
                  clear z3
                  go_wp2
                  go_roundw
                  case rel => exact ⟨k9 + 1, l9.set k9 7, by omega, by rw [List.length_set]; exact hl9, by go_num, Z3.out 7, hkx.setCell _ _ (.inl rfl)⟩
                  case measure => simp [intOf]; omega
                · obtain rfl : k9 = data.length := by omega
                  clear hkd hk9
                  go_wp2
                  go_roundw
                  case rel => exact ⟨i + 1, next, taken, all, l, L, Q, bv, pv, _, atv, bsv, by omega, by go_num, by rw [HSS.out]; exact hU6.out.closed hkx⟩
                  case measure => simp [intOf]; omega
            · have hn1 : 0 ≤ n := by omega
              obtain ⟨m, hm⟩ : ∃ m : Nat, (m : Int) = if (l.length : Int) < n then (l.length : Int) else n := ⟨(if (l.length : Int) < n then (l.length : Int) else n).toNat, by split <;> omega⟩
              have hll : (l.length : Int) = (next : Int) - (taken : Int) := by have h7 := HT.out.eq; have h8 := HT.out.tl; have h9 := HT.out.al; rw [h7, List.length_drop]; omega
              have hsm := HT.out.sm
              have hal := HT.out.al
              have htl := HT.out.tl
              have hmm : m ≤ l.length := by split at hm <;> omega
              have HP := Lib.hid (read_any g w.heap.size m room next n bv pv l w3 HT.out.hr HT.out.ho (by omega) hn1 hm)
              have HRP := Lib.hid (fun (W : World) (hkW : Keeps (fun b => b = g ∨ bv.ownBlock = some b) w3 W) => rread_any x m room n taken allv atv bsv all W (HT.out.hx.keeps hkW (fun e => by
                rcases e with e | e
                · exact HT.out.hr.neq HT.out.hx (by decide) e.symm
                · exact HT.out.ho.apart HT.out.hx (by decide) e)) (HT.out.ha.keeps hkW (fun b hb e => by
                rcases e with rfl | e
                · exact HT.out.ha.apart HT.out.hr (by decide) hb
                · exact HT.out.ap1 b e hb)).bat.low (by omega) (by omega) hn1 (by rw [hm, hal, ← hll]))
              clear fc1 fc2 hm hll hsm hal htl
              go_wp2_with fail
              refine HP.out.mono ?_
              rintro e w4 ⟨v4, rfl, ho4, hk4, bv4, hr4, hb4, hp4⟩
              obtain ⟨lt, hlt9⟩ : ∃ lt, l.take m = lt := ⟨_, rfl⟩
              rw [hlt9] at ho4
              have HLT := Lib.hid hlt9
              clear hlt9
              obtain ⟨a4, c4, rfl, -, -⟩ := BOwn.slice ho4
              have j24 : w4.cell? ⟨q, 2, none⟩ = some (.int .i64 n) := (HQ.out.keeps hk4 (fun e => by
                rcases e with e | e
                · exact hqg e
                · exact hqb e)).cell 2
              have HK4 := Lib.hid hk4
              have HO4 := Lib.hid ho4
              have HR4 := Lib.hid hr4
              have HB4 := Lib.hid hb4
              have HP4 := Lib.hid hp4
              clear HP hk4 ho4 hr4 hb4 hp4 j0 j1 j2 j3
              go_wp2_with fail
              refine (HRP.out w4 HK4.out).mono ?_
              rintro e w5 ⟨v5, rfl, ho5, hk5, hx5⟩
              rw [← HT.out.eq, HLT.out] at ho5
              obtain ⟨a5, c5, rfl, -, -⟩ := BOwn.slice ho5
              have hk45 : Keeps (fun b => b = x ∨ b = g ∨ bv.ownBlock = some b) w3 w5 := (HK4.out.mono (S' := fun b => b = x ∨ b = g ∨ bv.ownBlock = some b) (fun b _ hb => .inr hb)).trans hk5 (fun _ _ e => .inl e)
              have hT5 := (HT.out.took hmm HR4.out HB4.out HP4.out HK4.out hk5 hx5).more (data.length + 300)
              have tA := (HO4.out.keeps hk5 (fun b hb e => by have h1 := (HO4.out.block b hb).1; have h2 := HT.out.hx.lt; omega)).bat.text
              have tB := ho5.bat.text
              have HQ5 := Lib.hid (HQ.out.keeps hk45 (fun e => by
                rcases e with e | e | e
                · exact hqx e
                · exact hqg e
                · exact hqb e))
              have HW5 := Lib.hid (HO.out.keeps hk45 (fun b hb e => by
                obtain ⟨-, z2, -, -, -, z6, z7, -⟩ := HT.out.zb b hb
                rcases e with e | e | e
                · exact z7 e
                · exact z6 e
                · exact z2 e))
              have HD5 := Lib.hid (show BRd w5 (.slice da data.length dc) data from (HDW.out.keeps hk45 (fun b hb e => by
                rcases e with rfl | rfl | e
                · have := HT.out.gx; omega
                · have := HT.out.gg; omega
                · have := (HT.out.ho.block b e).1; omega)).mono fun b hb => Nat.lt_of_lt_of_le hb (Nat.le_trans HT.out.hk.size hk45.size))
              clear ho5 hk5 hx5 hk45 HRP HK4 HO4 HR4 HB4 HP4 HT HDW HQ HO j24 hmm
              go_wp2
              clear tA tB
              generalize w5 = W5 at *
              have HU := Lib.hid hT5
              obtain ⟨aa9, ac9, hav, -, -⟩ := BOwn.slice HU.out.ha
              subst hav
              clear hT5
              generalize hWW : W5 = W8 at *
              clear hWW
              obtain ⟨N, hN⟩ : ∃ N : Nat, next = N := ⟨_, rfl⟩
              have hAl : (all).length = N := by rw [← hN]; exact HU.out.al
              have hC0 : ∀ z, Keeps (fun _ => False) W8 z → z.cell? ⟨q, 3, none⟩ = some (.slice da data.length dc) ∧ z.cell? ⟨x, 1, none⟩ = some (.slice aa9 N ac9) ∧
                  (convert 30 9 (.slice oa data.length oc)).run Try.prog z = .ok (.string ⟨data.toArray⟩) z ∧ (convert 30 9 (.slice da data.length dc)).run Try.prog z = .ok (.string ⟨data.toArray⟩) z := fun z hz =>
                ⟨hz.cell (HQ5.out.cell 3) (fun h => h), hz.cell (by have := HU.out.hx.cell 1; rw [hAl] at this; exact this) (fun h => h), (HW5.out.keeps hz (fun _ _ h => h)).bat.text, (HD5.out.keeps hz).text⟩
              have HC0 := Lib.hid hC0
              clear hC0
              have hNX := Lib.hid (fun z hz => next_g (HU.out.keeps (W' := z) hz))
              have hRM := Lib.hid (fun z hz => room_g (HU.out.keeps (W' := z) hz) (by omega) (by omega) (by omega))
              have hRR := Lib.hid (fun z hz => rroom_g (HU.out.keeps (W' := z) hz) (by omega) (by omega) (by omega))
              have hPP := Lib.hid (fun z hz => parts_g (HU.out.keeps (W' := z) hz) (by omega) (by omega))
              have hPR := Lib.hid (fun z hz => rparts_g (HU.out.keeps (W' := z) hz) (by omega) (by omega) (by omega))
              have hLL : (L).length ≤ 1000000 := by have := HU.out.ll; omega
              have hk0 := (Keeps.refl (fun _ => False) W8).drew
              refine region_T [] (fun z => z.cell? ⟨q, 3, none⟩ = some (.slice da data.length dc) ∧ z.cell? ⟨x, 1, none⟩ = some (.slice aa9 N ac9) ∧
                  (convert 30 9 (.slice oa data.length oc)).run Try.prog z = .ok (.string ⟨data.toArray⟩) z ∧ (convert 30 9 (.slice da data.length dc)).run Try.prog z = .ok (.string ⟨data.toArray⟩) z) (by kernel_rfl) ?_
              have hC := HC0.out _ hk0
              refine anyT_take0 (i := 0) (v := ?_) rfl (by kernel_rfl) (by kernel_rfl) (by kernel_rfl) (by kernel_rfl) (by kernel_rfl) (fun _ _ _ h => h) hC (.inl ⟨by rfl, fun _ _ => ?_⟩) ?_
              rotate_left 1
              · go_simp
                try with_reducible rfl
              simp only [Act.put, List.getElem_toArray, List.getElem_cons_succ, List.getElem_cons_zero, List.setIfInBounds_toArray, List.set_cons_zero, List.set_cons_succ]
              refine anyT_take0 (i := 1) (v := ?_) rfl (by kernel_rfl) (by kernel_rfl) (by kernel_rfl) (by kernel_rfl) (by kernel_rfl) (fun _ _ _ h => h) hC (.inl ⟨by rfl, fun _ _ => ?_⟩) ?_
              rotate_left 1
              · go_simp
                try with_reducible rfl
              simp only [Act.put, List.getElem_toArray, List.getElem_cons_succ, List.getElem_cons_zero, List.setIfInBounds_toArray, List.set_cons_zero, List.set_cons_succ]
              refine anyT_take0 (i := 2) (v := ?_) rfl (by kernel_rfl) (by kernel_rfl) (by kernel_rfl) (by kernel_rfl) (by kernel_rfl) (fun _ _ _ h => h) hC (.inl ⟨by rfl, fun _ _ => ?_⟩) ?_
              rotate_left 1
              · go_simp
                try with_reducible rfl
              simp only [Act.put, List.getElem_toArray, List.getElem_cons_succ, List.getElem_cons_zero, List.setIfInBounds_toArray, List.set_cons_zero, List.set_cons_succ]
              refine anyT_take0 (i := 3) (v := ?_) rfl (by kernel_rfl) (by kernel_rfl) (by kernel_rfl) (by kernel_rfl) (by kernel_rfl) (fun _ _ _ h => h) hC (.inl ⟨by rfl, fun _ _ => ?_⟩) ?_
              rotate_left 1
              · go_simp
                try with_reducible rfl
              simp only [Act.put, List.getElem_toArray, List.getElem_cons_succ, List.getElem_cons_zero, List.setIfInBounds_toArray, List.set_cons_zero, List.set_cons_succ]
              refine anyT_takeC (i := 4) (v := ?_) rfl (by kernel_rfl) (by kernel_rfl) (by kernel_rfl) (by kernel_rfl) (by kernel_rfl) (by kernel_rfl) (fun _ _ _ h => h) hC (.inl ⟨by rfl, fun w hCw => ?_⟩) ?_
              rotate_left 1
              · dsimp only at hCw
                go_simp
                try with_reducible rfl
              simp only [Act.put, List.getElem_toArray, List.getElem_cons_succ, List.getElem_cons_zero, List.setIfInBounds_toArray, List.set_cons_zero, List.set_cons_succ]
              refine anyT_take0 (i := 5) (v := ?_) rfl (by kernel_rfl) (by kernel_rfl) (by kernel_rfl) (by kernel_rfl) (by kernel_rfl) (fun _ _ _ h => h) hC (.inl ⟨by rfl, fun _ _ => ?_⟩) ?_
              rotate_left 1
              · go_simp
                try with_reducible rfl
              simp only [Act.put, List.getElem_toArray, List.getElem_cons_succ, List.getElem_cons_zero, List.setIfInBounds_toArray, List.set_cons_zero, List.set_cons_succ]
              refine anyT_takeC (i := 6) (v := ?_) rfl (by kernel_rfl) (by kernel_rfl) (by kernel_rfl) (by kernel_rfl) (by kernel_rfl) (by kernel_rfl) (fun _ _ _ h => h) hC (.inl ⟨by rfl, fun w hCw => ?_⟩) ?_
              rotate_left 1
              · dsimp only at hCw
                go_simp
                try with_reducible rfl
              simp only [Act.put, List.getElem_toArray, List.getElem_cons_succ, List.getElem_cons_zero, List.setIfInBounds_toArray, List.set_cons_zero, List.set_cons_succ]
              refine anyT_takeC (i := 7) (v := ?_) rfl (by kernel_rfl) (by kernel_rfl) (by kernel_rfl) (by kernel_rfl) (by kernel_rfl) (by kernel_rfl) (fun _ _ _ h => h) hC (.inl ⟨by rfl, fun w hCw => ?_⟩) ?_
              rotate_left 1
              · dsimp only at hCw
                go_simp
                try with_reducible rfl
              simp only [Act.put, List.getElem_toArray, List.getElem_cons_succ, List.getElem_cons_zero, List.setIfInBounds_toArray, List.set_cons_zero, List.set_cons_succ]
              refine anyT_take0 (i := 8) (v := ?_) rfl (by kernel_rfl) (by kernel_rfl) (by kernel_rfl) (by kernel_rfl) (by kernel_rfl) (fun _ _ _ h => h) hC (.inl ⟨by rfl, fun _ _ => ?_⟩) ?_
              rotate_left 1
              · go_simp
                try with_reducible rfl
              simp only [Act.put, List.getElem_toArray, List.getElem_cons_succ, List.getElem_cons_zero, List.setIfInBounds_toArray, List.set_cons_zero, List.set_cons_succ]
              refine anyT_take0 (i := 9) (v := ?_) rfl (by kernel_rfl) (by kernel_rfl) (by kernel_rfl) (by kernel_rfl) (by kernel_rfl) (fun _ _ _ h => h) hC (.inl ⟨by rfl, fun _ _ => ?_⟩) ?_
              rotate_left 1
              · go_simp
                try with_reducible rfl
              simp only [Act.put, List.getElem_toArray, List.getElem_cons_succ, List.getElem_cons_zero, List.setIfInBounds_toArray, List.set_cons_zero, List.set_cons_succ]
              refine anyT_take0 (i := 10) (v := ?_) rfl (by kernel_rfl) (by kernel_rfl) (by kernel_rfl) (by kernel_rfl) (by kernel_rfl) (fun _ _ _ h => h) hC (.inl ⟨by rfl, fun _ _ => ?_⟩) ?_
              rotate_left 1
              · go_simp
                try with_reducible rfl
              simp only [Act.put, List.getElem_toArray, List.getElem_cons_succ, List.getElem_cons_zero, List.setIfInBounds_toArray, List.set_cons_zero, List.set_cons_succ]
              refine anyT_take0 (i := 11) (v := ?_) rfl (by kernel_rfl) (by kernel_rfl) (by kernel_rfl) (by kernel_rfl) (by kernel_rfl) (fun _ _ _ h => h) hC (.inl ⟨by rfl, fun _ _ => ?_⟩) ?_
              rotate_left 1
              · go_simp
                try with_reducible rfl
              simp only [Act.put, List.getElem_toArray, List.getElem_cons_succ, List.getElem_cons_zero, List.setIfInBounds_toArray, List.set_cons_zero, List.set_cons_succ]
              refine anyT_take0 (i := 13) (v := ?_) rfl (by kernel_rfl) (by kernel_rfl) (by kernel_rfl) (by kernel_rfl) (by kernel_rfl) (fun _ _ _ h => h) hC (.inl ⟨by rfl, fun _ _ => ?_⟩) ?_
              rotate_left 1
              · go_simp
                try with_reducible rfl
              simp only [Act.put, List.getElem_toArray, List.getElem_cons_succ, List.getElem_cons_zero, List.setIfInBounds_toArray, List.set_cons_zero, List.set_cons_succ]
              refine anyT_take0 (i := 14) (v := ?_) rfl (by kernel_rfl) (by kernel_rfl) (by kernel_rfl) (by kernel_rfl) (by kernel_rfl) (fun _ _ _ h => h) hC (.inl ⟨by rfl, fun _ _ => ?_⟩) ?_
              rotate_left 1
              · go_simp
                try with_reducible rfl
              simp only [Act.put, List.getElem_toArray, List.getElem_cons_succ, List.getElem_cons_zero, List.setIfInBounds_toArray, List.set_cons_zero, List.set_cons_succ]
              refine anyT_take0 (i := 15) (v := ?_) rfl (by kernel_rfl) (by kernel_rfl) (by kernel_rfl) (by kernel_rfl) (by kernel_rfl) (fun _ _ _ h => h) hC (.inl ⟨by rfl, fun _ _ => ?_⟩) ?_
              rotate_left 1
              · go_simp
                try with_reducible rfl
              simp only [Act.put, List.getElem_toArray, List.getElem_cons_succ, List.getElem_cons_zero, List.setIfInBounds_toArray, List.set_cons_zero, List.set_cons_succ]
              refine anyT_takeC (i := 16) (v := ?_) rfl (by kernel_rfl) (by kernel_rfl) (by kernel_rfl) (by kernel_rfl) (by kernel_rfl) (by kernel_rfl) (fun _ _ _ h => h) hC (.inl ⟨by rfl, fun w hCw => ?_⟩) ?_
              rotate_left 1
              · dsimp only at hCw
                go_simp
                try with_reducible rfl
              simp only [Act.put, List.getElem_toArray, List.getElem_cons_succ, List.getElem_cons_zero, List.setIfInBounds_toArray, List.set_cons_zero, List.set_cons_succ]
              refine anyT_take0 (i := 17) (v := ?_) rfl (by kernel_rfl) (by kernel_rfl) (by kernel_rfl) (by kernel_rfl) (by kernel_rfl) (fun _ _ _ h => h) hC (.inl ⟨by rfl, fun _ _ => ?_⟩) ?_
              rotate_left 1
              · go_simp
                try with_reducible rfl
              simp only [Act.put, List.getElem_toArray, List.getElem_cons_succ, List.getElem_cons_zero, List.setIfInBounds_toArray, List.set_cons_zero, List.set_cons_succ]
              refine anyT_force (i := 12) rfl (by kernel_rfl) (by rfl) ?_
              go_simp
              refine (hNX.out _ hk0).mono ?_
              rintro e z1 ⟨rfl, rfl⟩
              refine ⟨fun _ => hC, ?_⟩
              try simp only [Act.put, List.getElem_toArray, List.getElem_cons_succ, List.getElem_cons_zero, List.setIfInBounds_toArray, List.set_cons_zero, List.set_cons_succ]
              rw [hN]
              refine anyT_take0 (i := 18) (v := ?_) rfl (by kernel_rfl) (by kernel_rfl) (by kernel_rfl) (by kernel_rfl) (by kernel_rfl) (fun _ _ _ h => h) hC (.inl ⟨by rfl, fun _ _ => ?_⟩) ?_
              rotate_left 1
              · go_simp
                try with_reducible rfl
              simp only [Act.put, List.getElem_toArray, List.getElem_cons_succ, List.getElem_cons_zero, List.setIfInBounds_toArray, List.set_cons_zero, List.set_cons_succ]
              refine anyT_take0 (i := 19) (v := ?_) rfl (by kernel_rfl) (by kernel_rfl) (by kernel_rfl) (by kernel_rfl) (by kernel_rfl) (fun _ _ _ h => h) hC (.inl ⟨by rfl, fun _ _ => ?_⟩) ?_
              rotate_left 1
              · go_simp
                try with_reducible rfl
              simp only [Act.put, List.getElem_toArray, List.getElem_cons_succ, List.getElem_cons_zero, List.setIfInBounds_toArray, List.set_cons_zero, List.set_cons_succ]
              refine anyT_take0 (i := 20) (v := ?_) rfl (by kernel_rfl) (by kernel_rfl) (by kernel_rfl) (by kernel_rfl) (by kernel_rfl) (fun _ _ _ h => h) hC (.inl ⟨by rfl, fun _ _ => ?_⟩) ?_
              rotate_left 1
              · go_simp
                try with_reducible rfl
              simp only [Act.put, List.getElem_toArray, List.getElem_cons_succ, List.getElem_cons_zero, List.setIfInBounds_toArray, List.set_cons_zero, List.set_cons_succ]
              refine anyT_take0 (i := 21) (v := ?_) rfl (by kernel_rfl) (by kernel_rfl) (by kernel_rfl) (by kernel_rfl) (by kernel_rfl) (fun _ _ _ h => h) hC (.inl ⟨by rfl, fun _ _ => ?_⟩) ?_
              rotate_left 1
              · go_simp
                try with_reducible rfl
              simp only [Act.put, List.getElem_toArray, List.getElem_cons_succ, List.getElem_cons_zero, List.setIfInBounds_toArray, List.set_cons_zero, List.set_cons_succ]
              refine anyT_take0 (i := 23) (v := ?_) rfl (by kernel_rfl) (by kernel_rfl) (by kernel_rfl) (by kernel_rfl) (by kernel_rfl) (fun _ _ _ h => h) hC (.inl ⟨by rfl, fun _ _ => ?_⟩) ?_
              rotate_left 1
              · go_simp
                try with_reducible rfl
              simp only [Act.put, List.getElem_toArray, List.getElem_cons_succ, List.getElem_cons_zero, List.setIfInBounds_toArray, List.set_cons_zero, List.set_cons_succ]
              refine anyT_force (i := 22) rfl (by kernel_rfl) (by rfl) ?_
              go_simp
              refine (hRM.out _ hk0).mono ?_
              rintro e z2 ⟨rfl, hz2⟩
              have hk2 : Keeps (fun _ => False) W8 z2 := by obtain ⟨m2, rfl⟩ := hz2; exact hk0.drewN m2
              clear hC hz2
              have hC := HC0.out _ hk2
              refine ⟨fun _ => hC, ?_⟩
              try simp only [Act.put, List.getElem_toArray, List.getElem_cons_succ, List.getElem_cons_zero, List.setIfInBounds_toArray, List.set_cons_zero, List.set_cons_succ]
              refine anyT_force (i := 24) rfl (by kernel_rfl) (by rfl) ?_
              go_simp
              refine (hRR.out _ hk2).mono ?_
              rintro e z3 ⟨rfl, hz3⟩
              have hk3 : Keeps (fun _ => False) W8 z3 := by obtain ⟨m3, rfl⟩ := hz3; exact hk2.drewN m3
              clear hC hz3
              have hC := HC0.out _ hk3
              refine ⟨fun _ => hC, ?_⟩
              try simp only [Act.put, List.getElem_toArray, List.getElem_cons_succ, List.getElem_cons_zero, List.setIfInBounds_toArray, List.set_cons_zero, List.set_cons_succ]
              refine anyT_take0 (i := 25) (v := ?_) rfl (by kernel_rfl) (by kernel_rfl) (by kernel_rfl) (by kernel_rfl) (by kernel_rfl) (fun _ _ _ h => h) hC (.inl ⟨by rfl, fun _ _ => ?_⟩) ?_
              rotate_left 1
              · go_simp
                try with_reducible rfl
              simp only [Act.put, List.getElem_toArray, List.getElem_cons_succ, List.getElem_cons_zero, List.setIfInBounds_toArray, List.set_cons_zero, List.set_cons_succ]
              refine anyT_take0 (i := 26) (v := ?_) rfl (by kernel_rfl) (by kernel_rfl) (by kernel_rfl) (by kernel_rfl) (by kernel_rfl) (fun _ _ _ h => h) hC (.inl ⟨by rfl, fun _ _ => ?_⟩) ?_
              rotate_left 1
              · go_simp
                try with_reducible rfl
              simp only [Act.put, List.getElem_toArray, List.getElem_cons_succ, List.getElem_cons_zero, List.setIfInBounds_toArray, List.set_cons_zero, List.set_cons_succ]
              refine anyT_take0 (i := 27) (v := ?_) rfl (by kernel_rfl) (by kernel_rfl) (by kernel_rfl) (by kernel_rfl) (by kernel_rfl) (fun _ _ _ h => h) hC (.inl ⟨by rfl, fun _ _ => ?_⟩) ?_
              rotate_left 1
              · go_simp
                try with_reducible rfl
              simp only [Act.put, List.getElem_toArray, List.getElem_cons_succ, List.getElem_cons_zero, List.setIfInBounds_toArray, List.set_cons_zero, List.set_cons_succ]
              refine anyT_take0 (i := 28) (v := ?_) rfl (by kernel_rfl) (by kernel_rfl) (by kernel_rfl) (by kernel_rfl) (by kernel_rfl) (fun _ _ _ h => h) hC (.inl ⟨by rfl, fun _ _ => ?_⟩) ?_
              rotate_left 1
              · go_simp
                try with_reducible rfl
              simp only [Act.put, List.getElem_toArray, List.getElem_cons_succ, List.getElem_cons_zero, List.setIfInBounds_toArray, List.set_cons_zero, List.set_cons_succ]
              refine anyT_take0 (i := 30) (v := ?_) rfl (by kernel_rfl) (by kernel_rfl) (by kernel_rfl) (by kernel_rfl) (by kernel_rfl) (fun _ _ _ h => h) hC (.inl ⟨by rfl, fun _ _ => ?_⟩) ?_
              rotate_left 1
              · go_simp
                try with_reducible rfl
              simp only [Act.put, List.getElem_toArray, List.getElem_cons_succ, List.getElem_cons_zero, List.setIfInBounds_toArray, List.set_cons_zero, List.set_cons_succ]
              refine anyT_force (i := 29) rfl (by kernel_rfl) (by rfl) ?_
              go_simp
              refine (hPP.out _ hk3).mono ?_
              rintro e z4 ⟨vp, rfl, hTp, hkp⟩
              have hk4 := hk3.trans hkp (fun _ _ h => h)
              clear hC
              have hC := HC0.out _ hk4
              refine ⟨fun _ => hC, ?_⟩
              try simp only [Act.put, List.getElem_toArray, List.getElem_cons_succ, List.getElem_cons_zero, List.setIfInBounds_toArray, List.set_cons_zero, List.set_cons_succ]
              refine anyT_force (i := 31) rfl (by kernel_rfl) (by rfl) ?_
              go_simp
              refine (hPR.out _ hk4).mono ?_
              rintro e z5 ⟨vq, rfl, hTq, hkq⟩
              have hk5 := hk4.trans hkq (fun _ _ h => h)
              have hTp5 := hTp.keeps hkq (fun _ _ h => h)
              clear hC
              have hC := HC0.out _ hk5
              refine ⟨fun _ => hC, ?_⟩
              try simp only [Act.put, List.getElem_toArray, List.getElem_cons_succ, List.getElem_cons_zero, List.setIfInBounds_toArray, List.set_cons_zero, List.set_cons_succ]
              have hSA := Lib.hid (same_any _ _ vp vq _ z5 hTp5 hTq hLL)
              clear hTp hTp5 hTq hkp hkq
              refine anyT_force (i := 32) rfl (by kernel_rfl) (by rfl) ?_
              go_simp
              refine (hSA.out).mono ?_
              rintro e z6 ⟨rfl, hz6⟩
              have hk6 : Keeps (fun _ => False) W8 z6 := by obtain ⟨m6, rfl⟩ := hz6; exact hk5.drewN m6
              clear hC hz6
              have hC := HC0.out _ hk6
              refine ⟨fun _ => hC, ?_⟩
              try simp only [Act.put, List.getElem_toArray, List.getElem_cons_succ, List.getElem_cons_zero, List.setIfInBounds_toArray, List.set_cons_zero, List.set_cons_succ]
              refine anyT_take0 (i := 33) (v := ?_) rfl (by kernel_rfl) (by kernel_rfl) (by kernel_rfl) (by kernel_rfl) (by kernel_rfl) (fun _ _ _ h => h) hC (.inl ⟨by rfl, fun _ _ => ?_⟩) ?_
              rotate_left 1
              · go_simp
                try with_reducible rfl
              simp only [Act.put, List.getElem_toArray, List.getElem_cons_succ, List.getElem_cons_zero, List.setIfInBounds_toArray, List.set_cons_zero, List.set_cons_succ]
              refine anyT_take0 (i := 34) (v := ?_) rfl (by kernel_rfl) (by kernel_rfl) (by kernel_rfl) (by kernel_rfl) (by kernel_rfl) (fun _ _ _ h => h) hC (.inl ⟨by rfl, fun _ _ => ?_⟩) ?_
              rotate_left 1
              · go_simp
                try with_reducible rfl
              simp only [Act.put, List.getElem_toArray, List.getElem_cons_succ, List.getElem_cons_zero, List.setIfInBounds_toArray, List.set_cons_zero, List.set_cons_succ]
              refine (show anyT _ _ _ _ _ _ 0 _ _ _ from ⟨by kernel_rfl, ?_⟩)
              have hU6 := Lib.hid (HU.out.keeps hk6)
              have hO6 := Lib.hid (HW5.out.keeps hk6 (fun _ _ h => h))
              clear hC HC0 hNX hRM hRR hPP hPR hSA hk0 hk2 hk3 hk4 hk5 HU
              go_wp2
              go_loopw [20] (fun uu wx => ∃ (k : Nat) (l' : List UInt8), k ≤ data.length ∧ l'.length = data.length ∧ uu = .int .i64 k ∧ BOwn wx w.heap.size (.slice oa data.length oc) l' ∧ Keeps (fun b => (Value.slice oa data.length oc).ownBlock = some b) z6 wx) (fun uu _ => data.length - (intOf uu).toNat)
              case atStart => exact ⟨0, _, Nat.zero_le _, rfl, rfl, hO6.out, Keeps.refl _ _⟩
              case round =>
                obtain ⟨k9, l9, hk9, hl9, rfl, hb9, hkx⟩ := hrel
                by_cases hkd : k9 < data.length
                · obtain ⟨h9, o9, c9, e9, -, -, -⟩ := BOwn.place hb9 (by omega)
                  simp only [Value.slice.injEq] at e9
                  obtain ⟨rfl, -, rfl⟩ := e9
                  obtain ⟨z1, z2, z3⟩ := BOwn.at hb9 k9 (by omega)
                  have Z3 := Lib.hid z3
                  clear z3
                  go_wp2
                  go_roundw
                  case rel => exact ⟨k9 + 1, l9.set k9 7, by omega, by rw [List.length_set]; exact hl9, by go_num, Z3.out 7, hkx.setCell _ _ (.inl rfl)⟩
                  case measure => simp [intOf]; omega
                · obtain rfl : k9 = data.length := by omega
                  clear hkd hk9
                  go_wp2
                  go_roundw
                  case rel => exact ⟨i + 1, next, (taken + m), all, (l.drop m), L, Q, bv4, pv, _, atv, bsv, by omega, by go_num, by rw [HSS.out]; exact hU6.out.closed hkx⟩
                  case measure => simp [intOf]; omega
        · obtain rfl : i = S.length := by omega
          go_wp2_with (go_at_call 10; refine (awake_any _).mono ?_; rintro e w9 ⟨rfl, hk9⟩)
          go_ret
          exact ⟨rfl, HI.out.hk.trans hk9 (fun _ _ h => h)⟩
end Go.Proofs.Ytiodmhcmciohnaa

/-! The law FlowGets, as its row asks for it. -/
namespace Go.Proofs.Ytiodmhcmciohnaa
set_option linter.unusedVariables false
set_option linter.unusedSimpArgs false
open Go.RowKit
theorem lgets_row (room : Int) (rv : Value) (L : List OpV) (w : World) (h0 : (Lit.int .i64 room).wf = true) (hR : ORd w rv L) :
    Calls Try.prog 3 #[.int .i64 room, rv] w fun e w' => e = .returned (.bool true) ∧ Keeps (fun _ => False) w w' := lgets_any room rv L w hR h0
end Go.Proofs.Ytiodmhcmciohnaa
