/- Words, walks and plain laws that the claim leans on, part 24. -/
import Derived.Test.YtjcbbmlloadagaaDoorM19
import Derived.Test.YtjcbbmlloadagaaDoorM23

/-! few; the document's Bytes, of a packet that may be. -/
namespace Go.Proofs.YtjcbbmlloadagaaDoor
set_option linter.unusedVariables false
set_option linter.unusedSimpArgs false
open Go.RowKit

def fewB (p : P4) : Bool := decide (p.src.length + p.dst.length + p.opt.length ≤ 300) && (decide (p.data.length ≤ 2000) || (decide (65400 < p.data.length) && decide (p.data.length < 66000)))
theorem few_facts (p : P4) (h : fewB p = true) : p.src.length + p.dst.length + p.opt.length ≤ 300 ∧ p.data.length < 66000 := by
  unfold fewB at h
  simp only [Bool.and_eq_true, Bool.or_eq_true, decide_eq_true_eq] at h
  omega

set_option maxRecDepth 100000 in
set_option maxHeartbeats 4000000 in
theorem few_any (p : P4) (dv : Value) (w : World) (hd : BRd w dv p.data) (hs : Sized4 p) :
    Calls Tryd.prog 16 #[.agg (p4cells p dv)] w fun e w' => e = .returned (.bool (fewB p)) ∧ Keeps (fun _ => False) w w' := by
  obtain ⟨tos, id, ttl, proto, df, mf, off, src, dst, opt, data⟩ := p
  obtain ⟨s1, s2, s3⟩ := hs
  simp only at hd s1 s2 s3
  obtain ⟨da, dc, rfl, hdc, hdm⟩ := hd.slice
  simp only [maxLen] at hdm
  unfold p4cells txt
  simp only
  have hk0 := (Keeps.refl (fun _ => False) w).alloc (.cells #[.int .i64 tos, .int .i64 id, .int .i64 ttl, .int .i64 proto, .bool df, .bool mf, .int .i64 off, .string ⟨src.toArray⟩, .string ⟨dst.toArray⟩, .string ⟨opt.toArray⟩, .slice da data.length dc] 25)
  have t1 : (src.length : Int) ≤ 140737488351232 := by omega
  have t2 : (dst.length : Int) ≤ 140737488351232 := by omega
  have t3 : (opt.length : Int) ≤ 140737488351232 := by omega
  by_cases h1 : (src.length : Int) + (dst.length : Int) + (opt.length : Int) ≤ 300
  · by_cases h2 : (data.length : Int) ≤ 2000
    · go_enter Tryd.func16, Tryd.ntmps16
      go_wp2
      go_ret
      refine ⟨ret_bool ?_, hk0⟩
      unfold fewB
      simp only
      first | (simp; omega) | (simp [*]; done) | (simp; done)
    · have h2' : (2000 : Int) < (data.length : Int) := by omega
      by_cases h3 : (65400 : Int) < (data.length : Int)
      · by_cases h4 : (data.length : Int) < 66000
        · go_enter Tryd.func16, Tryd.ntmps16
          go_wp2
          go_ret
          refine ⟨ret_bool ?_, hk0⟩
          unfold fewB
          simp only
          first | (simp; omega) | (simp [*]; done) | (simp; done)
        · have h4' : (66000 : Int) ≤ (data.length : Int) := by omega
          go_enter Tryd.func16, Tryd.ntmps16
          go_wp2
          go_ret
          refine ⟨ret_bool ?_, hk0⟩
          unfold fewB
          simp only
          first | (simp; omega) | (simp [*]; done) | (simp; done)
      · have h3' : (data.length : Int) ≤ 65400 := by omega
        go_enter Tryd.func16, Tryd.ntmps16
        go_wp2
        go_ret
        refine ⟨ret_bool ?_, hk0⟩
        unfold fewB
        simp only
        first | (simp; omega) | (simp [*]; done) | (simp; done)
  · have h1' : (300 : Int) < (src.length : Int) + (dst.length : Int) + (opt.length : Int) := by omega
    go_enter Tryd.func16, Tryd.ntmps16
    go_wp2
    go_ret
    refine ⟨ret_bool ?_, hk0⟩
    unfold fewB
    simp only
    first | (simp; omega) | (simp [*]; done) | (simp; done)

theorem rbytes_any (p : P4) (dv : Value) (w : World) (hd : BRd w dv p.data) (hE : checkE p = 0) :
    Calls Tryd.prog 20 #[.agg (p4cells p dv)] w fun e w' => ∃ v, e = .returned v ∧ BRd w' v (bytesP p) ∧ Keeps (fun _ => False) w w' := by
  obtain ⟨⟨a1, a2⟩, ⟨b1, b2⟩, ⟨c1, c2⟩, ⟨d1, d2⟩, ⟨e1, e2⟩, h8, h4, h4', h40, h40', hall⟩ := check_facts p hE
  obtain ⟨tos, id, ttl, proto, df, mf, off, src, dst, opt, data⟩ := p
  simp only at a1 a2 b1 b2 c1 c2 d1 d2 e1 e2 h8 h4 h4' h40 h40' hall hd
  obtain ⟨t, rfl⟩ : ∃ t : Nat, tos = t := ⟨tos.toNat, by omega⟩
  obtain ⟨i, rfl⟩ : ∃ t : Nat, id = t := ⟨id.toNat, by omega⟩
  obtain ⟨tt, rfl⟩ : ∃ t : Nat, ttl = t := ⟨ttl.toNat, by omega⟩
  obtain ⟨pr, rfl⟩ : ∃ t : Nat, proto = t := ⟨proto.toNat, by omega⟩
  obtain ⟨o, rfl⟩ : ∃ o : Nat, off = ((8 * o : Nat) : Int) := ⟨off.toNat / 8, by omega⟩
  refine (rbytes_ok t i tt pr o df mf src dst opt data dv w hd (by omega) (by omega) (by omega) (by omega) (by omega) h4 h4' h40 h40' hall).mono ?_
  rintro e w' ⟨v, rfl, h1, h2⟩
  refine ⟨v, rfl, ?_, h2⟩
  unfold bytesP
  simp only [Int.toNat_natCast]
  rw [show 8 * o / 8 = o by omega]
  exact h1
end Go.Proofs.YtjcbbmlloadagaaDoor

/-! The law Ip4Lays. -/
namespace Go.Proofs.YtjcbbmlloadagaaDoor
set_option linter.unusedVariables false
set_option linter.unusedSimpArgs false
open Go.RowKit

set_option maxRecDepth 100000 in
set_option maxHeartbeats 4000000 in
theorem llays_any (p : P4) (dv : Value) (w : World) (hd : BRd w dv p.data) (hs : Sized4 p) (hg : ErrT w) :
    Calls Tryd.prog 6 #[.agg (p4cells p dv)] w fun e w' => e = .returned (.bool true) ∧ Keeps (fun _ => False) w w' := by
  obtain ⟨da, dc, rfl, hdc, hdm⟩ := hd.slice
  simp only [maxLen] at hdm
  have hk0 := (Keeps.refl (fun _ => False) w).alloc (.cells (p4cells p (.slice da p.data.length dc)) 25)
  have hr0 := RowAt.new w (p4cells p (.slice da p.data.length dc)) 25
  obtain ⟨c0, c1, c2, c3, c4, c5, c6, c7, c8, c9, c10⟩ := hr0.p4
  have hfew := few_any p (.slice da p.data.length dc) _ (hd.keeps hk0) hs
  by_cases hF : fewB p = true
  · rw [hF] at hfew
    have HFEW := Lib.hid hfew
    obtain ⟨F1, F2⟩ := few_facts p hF
    clear hfew hF
    generalize hw1 : w.alloc (.cells (p4cells p (.slice da p.data.length dc)) 25) = w1 at hk0 hr0 c0 c1 c2 c3 c4 c5 c6 c7 c8 c9 c10 HFEW
    obtain ⟨b, hb⟩ : ∃ b, w.heap.size = b := ⟨_, rfl⟩
    rw [hb] at hr0 c0 c1 c2 c3 c4 c5 c6 c7 c8 c9 c10
    go_enter Tryd.func6, Tryd.ntmps6
    have hlt0 := hr0.lt
    go_wp2_with fail
    refine HFEW.out.mono ?_
    rintro e w2 ⟨rfl, hk2⟩
    have hkA := hk0.trans hk2 (fun _ _ h => h)
    have hr2 := hr0.keeps hk2 (fun h => h)
    clear c0 c1 c2 c3 c4 c5 c6 c7 c8 c9 c10
    obtain ⟨c0, c1, c2, c3, c4, c5, c6, c7, c8, c9, c10⟩ := hr2.p4
    have hlt2 := hr2.lt
    clear hk0 hr0 hk2 HFEW hlt0
    obtain ⟨g, hg2⟩ : ∃ g, w2.heap.size = g := ⟨_, rfl⟩
    have hbg : b ≠ g := by omega
    have hP4 : (.agg #[.int .i64 p.tos, .int .i64 p.id, .int .i64 p.ttl, .int .i64 p.proto, .bool p.df, .bool p.mf, .int .i64 p.off, .string ⟨p.src.toArray⟩, .string ⟨p.dst.toArray⟩, .string ⟨p.opt.toArray⟩, .slice da p.data.length dc] : Value) = .agg (p4cells p (.slice da p.data.length dc)) := rfl
    have HP4 := Lib.hid hP4
    clear hP4
    go_wp2_with (refine wpList_store_whole rfl 25 (.tmp 3) (.tmp 10) rfl g (p4cells p (.slice da p.data.length dc)) rfl rfl 25 _ 11 (hg2 ▸ RowAt.new w2 p4zc _) rfl rfl (by kernel_rfl) (p4_one _ _ rfl) (fun w3 hr3 hk3 => ?_); have hk23 : Keeps (fun _ => False) w2 w3 := (((Keeps.refl (fun _ => False) w2).alloc (.cells p4zc 25)).from hk3 (fun x e => by omega)); clear hk3 c0 c1 c2 c3 c4 c5 c6 c7 c8 c9 c10; obtain ⟨c0, c1, c2, c3, c4, c5, c6, c7, c8, c9, c10⟩ := (hr2.keeps hk23 (fun h => h)).p4)
    have hkB := hkA.trans hk23 (fun _ _ h => h)
    have hd3 := hd.keeps hkB
    have hr13 := hr2.keeps hk23 (fun h => h)
    refine (both_any _ [p.data] _ (BBAt.one (T := 22) hd3).low (by simp; omega)).mono ?_
    rintro e w4 ⟨v1, rfl, ho4, hk4⟩
    rw [show [p.data].flatten = p.data by simp] at ho4
    have hk34 := ((Keeps.refl (fun _ => False) w3).alloc (.cells #[.slice da p.data.length dc] 22)).trans hk4 (fun _ _ h => h)
    have hr4 := hr3.keeps hk34 (fun h => h)
    have hr14 := hr13.keeps hk34 (fun h => h)
    have hkC := hkB.trans hk34 (fun _ _ h => h)
    have gc := hr4.cell 10
    have gf := hr4.frozen 10
    obtain ⟨s1, z1, rfl, hz1, hzm⟩ := BAt.slice ho4.bat
    have hr5 : RowAt (w4.setCell ⟨g, 10, none⟩ (.slice s1 p.data.length z1)) g (p4cells p (.slice s1 p.data.length z1)) 25 := hr4.set 10 _
    have hr15 := hr14.setOther ⟨g, 10, none⟩ (.slice s1 p.data.length z1) hbg
    have hge : w.heap.size ≤ g := by have := hkA.size; omega
    have hkD := hkC.setCell ⟨g, 10, none⟩ (.slice s1 p.data.length z1) (.inr hge)
    have hks : Keeps (· = g) w4 (w4.setCell ⟨g, 10, none⟩ (.slice s1 p.data.length z1)) := (Keeps.refl _ _).setCell _ _ (.inl rfl)
    have ho5 := ho4.keeps hks (fun x hx e => by have := (ho4.block x hx).1; have h1 := hr3.lt; rw [size_alloc] at this; omega)
    have hd5 := hd.keeps hkD
    clear hks hr14 hr4 ho4 hk34 hkC hk4 hr13 hd3 hkB hk23 hr3 hr2 hkA c0 c1 c2 c3 c4 c5 c6 c7 c8 c9 c10 hg2 hlt2
    have hgd : ErrT _ := hg.keeps hkD
    generalize hw5 : w4.setCell ⟨g, 10, none⟩ (.slice s1 p.data.length z1) = w5 at hr5 hr15 hkD ho5 hd5 hgd
    have hdo : BRd w5 (.slice s1 p.data.length z1) p.data := ho5.bat.low
    simp only [p4cells, txt, List.getElem?_toArray, List.getElem?_cons_succ, List.getElem?_cons_zero] at gc
    obtain ⟨c0, c1, c2, c3, c4, c5, c6, c7, c8, c9, c10⟩ := hr5.p4
    obtain ⟨E, hE⟩ : ∃ E, checkE p = E := ⟨_, rfl⟩
    have hby := bytes_any p _ w5 hgd hdo (by omega) (by omega)
    have HBY := Lib.hid hby
    clear hby
    go_wp2_with fail
    refine HBY.out.mono ?_
    rintro e w6 ⟨hk6, ⟨hz, v4, rfl, ho4⟩ | ⟨hz, rfl⟩⟩
    · rw [hE] at hz
      obtain rfl : E = 0 := hz
      clear HBY c0 c1 c2 c3 c4 c5 c6 c7 c8 c9 c10 gc gf
      obtain ⟨s4, z4, rfl, hz4, hz4m⟩ := BAt.slice ho4.bat
      have hk56 := hk6
      have hr6 := hr5.keeps hk6 (fun h => h)
      have hr16 := hr15.keeps hk6 (fun h => h)
      have hdo6 := hdo.keeps hk6
      have hd6 := hd5.keeps hk6
      have hg6 := hgd.keeps hk6
      have hkE := hkD.trans hk6 (fun _ _ h => h)
      obtain ⟨f0, f1, f2, f3, f4, f5, f6, f7, f8, f9, f10⟩ := hr16.p4
      clear hk6 hk56
      go_wp2_with fail
      refine (rcheck_any p _ _ hd6 (by omega) (by omega)).mono ?_
      rintro e w7 ⟨rfl, hk7⟩
      rw [hE]
      clear f0 f1 f2 f3 f4 f5 f6 f7 f8 f9 f10
      have hkF := hkE.trans hk7 (fun _ _ h => h)
      have hr7 := hr6.keeps hk7 (fun h => h)
      have hr17 := hr16.keeps hk7 (fun h => h)
      have hdo7 := hdo6.keeps hk7
      have hd7 := hd6.keeps hk7
      have hg7 := hg6.keeps hk7
      obtain ⟨f0, f1, f2, f3, f4, f5, f6, f7, f8, f9, f10⟩ := hr7.p4
      clear hr6 hr16 hdo6 hd6 hg6 hkE
      go_wp2_with fail
      refine (pcheck_any p _ _ hg7 hdo7 (by omega) (by omega)).mono ?_
      rintro e w8 ⟨rfl, hk8⟩
      rw [hE]
      clear f0 f1 f2 f3 f4 f5 f6 f7 f8 f9 f10
      obtain ⟨f0, f1, f2, f3, f4, f5, f6, f7, f8, f9, f10⟩ := (hr7.keeps hk8 (fun h => h)).p4
      obtain ⟨e0, e1, e2, e3, e4, e5, e6, e7, e8, e9, e10⟩ := (hr17.keeps hk8 (fun h => h)).p4
      go_wp2_with fail
      refine (same4_any p _ _ _ (hdo7.keeps hk8) (hd7.keeps hk8)).mono ?_
      rintro e w9 ⟨rfl, hk9⟩
      clear f0 f1 f2 f3 f4 f5 f6 f7 f8 f9 f10 e0 e1 e2 e3 e4 e5 e6 e7 e8 e9 e10
      have hkG := (hkF.trans hk8 (fun _ _ h => h)).trans hk9 (fun _ _ h => h)
      have hk79 := hk8.trans hk9 (fun _ _ h => h)
      have hr19 := hr17.keeps hk79 (fun h => h)
      have hd9 := hd7.keeps hk79
      have hot : BRd w9 (.slice s4 (bytesP p).length z4) (bytesP p) := BRd.keeps (BRd.keeps ho4.bat.low hk7) hk79
      clear hr7 hr17 hdo7 hd7 hg7 hk8 hk9 ho4 hkF hr5 hr15 hdo hd5 hgd hkD ho5 hk7 hk79
      go_wp2_with fail
      refine region_T [] (fun _ => True) (by kernel_rfl) ?_
      refine anyT_force (i := 0) rfl (by kernel_rfl) (by rfl) ?_
      go_simp
      refine (awake_any _ (hg.keeps hkG.drew)).mono ?_
      rintro e w10 ⟨rfl, hk10⟩
      have hC : (fun _ : World => True) w10 := trivial
      have hkA9 := (Keeps.refl (fun _ => False) w9).drew.trans hk10 (fun _ _ h => h)
      have hr20 := hr19.keeps hkA9 (fun h => h)
      have hd20 := hd9.keeps hkA9
      have hot20 := hot.keeps hkA9
      have hkH := hkG.trans hkA9 (fun _ _ h => h)
      clear hr19 hd9 hot hkG hkA9 hk10
      refine anyT_take0 (i := 1) (v := ?_) rfl (by kernel_rfl) (by kernel_rfl) (by kernel_rfl) (by kernel_rfl) (by kernel_rfl) (fun _ _ _ h => h) hC (.inl ⟨by rfl, fun _ _ => ?_⟩) ?_
      rotate_left 1
      · go_simp
        try with_reducible rfl
      simp only [Act.put, List.getElem_toArray, List.getElem_cons_succ, List.getElem_cons_zero, List.setIfInBounds_toArray, List.set_cons_zero, List.set_cons_succ]
      refine anyT_take0 (i := 2) (v := ?_) rfl (by kernel_rfl) (by kernel_rfl) (by kernel_rfl) (by kernel_rfl) (by kernel_rfl) (fun _ _ _ h => h) hC (.inl ⟨by rfl, fun _ _ => ?_⟩) ?_
      rotate_left 1
      · go_simp
        try with_reducible rfl
      simp only [Act.put, List.getElem_toArray, List.getElem_cons_succ, List.getElem_cons_zero, List.setIfInBounds_toArray, List.set_cons_zero, List.set_cons_succ]
      refine anyT_par [(3, rEq (.string ⟨(bytesP p).toArray⟩)), (4, rEq (.agg (p4cells p (.slice da p.data.length dc)))), (5, rBytes (bytesP p)), (6, rEq (.string ⟨(bytesP p).toArray⟩)), (7, rEq (.bool true)), (8, rEq (.bool true)), (9, rEq (.bool true))] _ [3, 4, 5, 6, 7, 8, 9] (fun _ => trivial) (by kernel_rfl) rfl (by kernel_rfl) rfl ?_
      refine ⟨_, rfl, fun w2 hk2 hK => ?_, fun u3 => ?_⟩
      rotate_left 1
      simp only [dstOf, Act.put, List.getElem?_toArray, List.getElem?_cons_succ, List.getElem?_cons_zero, Option.bind_some, List.setIfInBounds_toArray, List.set_cons_zero, List.set_cons_succ, List.nil_append, List.cons_append]
      rotate_left 1
      · have hTX := (hot20.keeps hk2).text
        go_wp2
        exact ⟨_, rfl, rfl, Keeps.refl _ _⟩
      refine ⟨_, rfl, fun w2 hk2 hK => ?_, fun u4 => ?_⟩
      rotate_left 1
      simp only [dstOf, Act.put, List.getElem?_toArray, List.getElem?_cons_succ, List.getElem?_cons_zero, Option.bind_some, List.setIfInBounds_toArray, List.set_cons_zero, List.set_cons_succ, List.nil_append, List.cons_append]
      rotate_left 1
      · obtain ⟨f0, f1, f2, f3, f4, f5, f6, f7, f8, f9, f10⟩ := (hr20.keeps hk2 (fun h => h)).p4
        go_wp2
        exact ⟨_, rfl, rfl, Keeps.refl _ _⟩
      refine ⟨_, rfl, fun w2 hk2 hK => ?_, fun u5 => ?_⟩
      rotate_left 1
      simp only [dstOf, Act.put, List.getElem?_toArray, List.getElem?_cons_succ, List.getElem?_cons_zero, Option.bind_some, List.setIfInBounds_toArray, List.set_cons_zero, List.set_cons_succ, List.nil_append, List.cons_append]
      rotate_left 1
      · obtain rfl : u4 = .agg (p4cells p (.slice da p.data.length dc)) := hK (4, u4) (by simp) (by kernel_rfl)
        go_wp2_with (refine (rbytes_any p _ _ (hd20.keeps hk2) hE).mono ?_; rintro e w3 ⟨v3, rfl, ho3, hk3⟩)
        exact ⟨_, rfl, ho3, hk3⟩
      refine ⟨_, rfl, fun w2 hk2 hK => ?_, fun u6 => ?_⟩
      rotate_left 1
      simp only [dstOf, Act.put, List.getElem?_toArray, List.getElem?_cons_succ, List.getElem?_cons_zero, Option.bind_some, List.setIfInBounds_toArray, List.set_cons_zero, List.set_cons_succ, List.nil_append, List.cons_append]
      rotate_left 1
      · have k5 : BRd w2 u5 (bytesP p) := hK (5, u5) (by simp) (by kernel_rfl)
        have hTX := k5.text
        go_wp2
        exact ⟨_, rfl, rfl, Keeps.refl _ _⟩
      refine ⟨_, rfl, fun w2 hk2 hK => ?_, fun u7 => ?_⟩
      rotate_left 1
      simp only [dstOf, Act.put, List.getElem?_toArray, List.getElem?_cons_succ, List.getElem?_cons_zero, Option.bind_some, List.setIfInBounds_toArray, List.set_cons_zero, List.set_cons_succ, List.nil_append, List.cons_append]
      rotate_left 1
      · obtain rfl : u3 = .string ⟨(bytesP p).toArray⟩ := hK (3, u3) (by simp) (by kernel_rfl)
        obtain rfl : u6 = .string ⟨(bytesP p).toArray⟩ := hK (6, u6) (by simp) (by kernel_rfl)
        go_wp2
        exact ⟨_, rfl, rfl, Keeps.refl _ _⟩
      refine ⟨_, rfl, fun w2 hk2 hK => ?_, fun u8 => ?_⟩
      rotate_left 1
      simp only [dstOf, Act.put, List.getElem?_toArray, List.getElem?_cons_succ, List.getElem?_cons_zero, Option.bind_some, List.setIfInBounds_toArray, List.set_cons_zero, List.set_cons_succ, List.nil_append, List.cons_append]
      rotate_left 1
      · obtain rfl : u7 = .bool true := hK (7, u7) (by simp) (by kernel_rfl)
        go_wp2
        exact ⟨_, rfl, rfl, Keeps.refl _ _⟩
      refine ⟨_, rfl, fun w2 hk2 hK => ?_, fun u9 => ?_⟩
      rotate_left 1
      simp only [dstOf, Act.put, List.getElem?_toArray, List.getElem?_cons_succ, List.getElem?_cons_zero, Option.bind_some, List.setIfInBounds_toArray, List.set_cons_zero, List.set_cons_succ, List.nil_append, List.cons_append]
      rotate_left 1
      · obtain rfl : u8 = .bool true := hK (8, u8) (by simp) (by kernel_rfl)
        go_wp2
        exact ⟨_, rfl, rfl, Keeps.refl _ _⟩
      intro w2 hk2 hK
      obtain rfl : u9 = .bool true := hK (9, u9) (by simp)
      go_wp2
      go_ret
      exact ⟨rfl, hkH.trans hk2 (fun _ _ h => h)⟩
    · rw [hE] at hz ⊢
      have y1 : (E == 0) = false := beq_eq_false_iff_ne.2 hz
      have y2 : (E != 0) = true := bne_iff_ne.2 hz
      clear HBY c0 c1 c2 c3 c4 c5 c6 c7 c8 c9 c10 gc gf hz
      have hk56 := hk6
      have hr6 := hr5.keeps hk6 (fun h => h)
      have hr16 := hr15.keeps hk6 (fun h => h)
      have hdo6 := hdo.keeps hk6
      have hd6 := hd5.keeps hk6
      have hg6 := hgd.keeps hk6
      have hkE := hkD.trans hk6 (fun _ _ h => h)
      obtain ⟨f0, f1, f2, f3, f4, f5, f6, f7, f8, f9, f10⟩ := hr16.p4
      clear hk6 hk56
      go_wp2_with fail
      refine (rcheck_any p _ _ hd6 (by omega) (by omega)).mono ?_
      rintro e w7 ⟨rfl, hk7⟩
      rw [hE]
      clear f0 f1 f2 f3 f4 f5 f6 f7 f8 f9 f10
      have hkF := hkE.trans hk7 (fun _ _ h => h)
      have hr7 := hr6.keeps hk7 (fun h => h)
      have hr17 := hr16.keeps hk7 (fun h => h)
      have hdo7 := hdo6.keeps hk7
      have hd7 := hd6.keeps hk7
      have hg7 := hg6.keeps hk7
      obtain ⟨f0, f1, f2, f3, f4, f5, f6, f7, f8, f9, f10⟩ := hr7.p4
      clear hr6 hr16 hdo6 hd6 hg6 hkE
      go_wp2_with fail
      refine (pcheck_any p _ _ hg7 hdo7 (by omega) (by omega)).mono ?_
      rintro e w8 ⟨rfl, hk8⟩
      rw [hE]
      clear f0 f1 f2 f3 f4 f5 f6 f7 f8 f9 f10
      obtain ⟨f0, f1, f2, f3, f4, f5, f6, f7, f8, f9, f10⟩ := (hr7.keeps hk8 (fun h => h)).p4
      obtain ⟨e0, e1, e2, e3, e4, e5, e6, e7, e8, e9, e10⟩ := (hr17.keeps hk8 (fun h => h)).p4
      go_wp2_with fail
      refine (same4_any p _ _ _ (hdo7.keeps hk8) (hd7.keeps hk8)).mono ?_
      rintro e w9 ⟨rfl, hk9⟩
      clear f0 f1 f2 f3 f4 f5 f6 f7 f8 f9 f10 e0 e1 e2 e3 e4 e5 e6 e7 e8 e9 e10
      have hkG := (hkF.trans hk8 (fun _ _ h => h)).trans hk9 (fun _ _ h => h)
      have hk79 := hk8.trans hk9 (fun _ _ h => h)
      go_wp2_with (refine (awake_any _ (hg.keeps hkG)).mono ?_; rintro e w10 ⟨rfl, hk10⟩)
      go_ret
      exact ⟨rfl, hkG.trans hk10 (fun _ _ h => h)⟩
  · have hF' : fewB p = false := by simpa using hF
    rw [hF'] at hfew
    have HFEW := Lib.hid hfew
    clear hfew hF hF'
    generalize hw1 : w.alloc (.cells (p4cells p (.slice da p.data.length dc)) 25) = w1 at hk0 hr0 c0 c1 c2 c3 c4 c5 c6 c7 c8 c9 c10 HFEW
    go_enter Tryd.func6, Tryd.ntmps6
    go_wp2_with (go_at_call 16; refine HFEW.out.mono ?_; rintro e w2 ⟨rfl, hk2⟩)
    go_ret
    exact ⟨rfl, hk0.trans hk2 (fun _ _ h => h)⟩
end Go.Proofs.YtjcbbmlloadagaaDoor
