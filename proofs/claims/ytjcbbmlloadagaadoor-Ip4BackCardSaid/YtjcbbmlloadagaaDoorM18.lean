/- Words, walks and plain laws that the claim leans on, part 18. -/
import Derived.Test.YtjcbbmlloadagaaDoorM6
import Derived.Test.YtjcbbmlloadagaaDoorM15
import Derived.Test.YtjcbbmlloadagaaDoorM17
import Derived.IntWalk

/-! redoubtref03.Bytes. -/
namespace Go.Proofs.YtjcbbmlloadagaaDoor
set_option linter.unusedVariables false
set_option linter.unusedSimpArgs false
open Go.RowKit


set_option maxRecDepth 100000 in
set_option maxHeartbeats 4000000 in
theorem rbytes_ok (t i tt pr o : Nat) (df mf : Bool) (src dst opt data : List UInt8) (dv : Value) (w : World) (hd : BRd w dv data)
    (ht : t ≤ 255) (hi : i ≤ 65535) (htt : tt ≤ 255) (hpr : pr ≤ 255) (ho : o ≤ 8191) (hs : src.length = 4) (hds : dst.length = 4) (h4 : opt.length % 4 = 0) (h40 : opt.length ≤ 40) (hall : 20 + opt.length + data.length ≤ 65535) :
    Calls Tryd.prog 20 #[.agg (p4cells ⟨t, i, tt, pr, df, mf, ((8 * o : Nat) : Int), src, dst, opt, data⟩ dv)] w fun e w' =>
      ∃ v, e = .returned v ∧ BRd w' v (bytesN t i tt pr o df mf src dst opt data) ∧ Keeps (fun _ => False) w w' := by
  obtain ⟨da, dc, rfl, hdc, hdm⟩ := hd.slice
  simp only [maxLen] at hdm
  have hk0 := (Keeps.refl (fun _ => False) w).alloc (.cells (p4cells ⟨t, i, tt, pr, df, mf, ((8 * o : Nat) : Int), src, dst, opt, data⟩ (.slice da data.length dc)) 25)
  have hr := RowAt.new w (p4cells ⟨t, i, tt, pr, df, mf, ((8 * o : Nat) : Int), src, dst, opt, data⟩ (.slice da data.length dc)) 25
  obtain ⟨o8, ho8e⟩ : ∃ o8, 8 * o = o8 := ⟨_, rfl⟩
  rw [ho8e] at hk0 hr ⊢
  obtain ⟨h, hh⟩ : ∃ h, 5 + opt.length / 4 = h := ⟨_, rfl⟩
  obtain ⟨n, hn⟩ : ∃ n, 20 + opt.length = n := ⟨_, rfl⟩
  obtain ⟨c, hc⟩ : ∃ c, n + data.length = c := ⟨_, rfl⟩
  have hnl : (opt.length : Int) ≤ 40 := by omega
  have e8 : ((o8 : Int) / 8) = (o : Int) := by omega
  have eh : (5 : Int) + (opt.length : Int) / 4 = (h : Int) := by omega
  have ho' : (o : Int) ≤ 8191 := by omega
  have ho8' : (o8 : Int) ≤ 65528 := by omega
  have hd8 : (h : Int) ≤ 15 := by omega
  have e4h : 4 * (h : Int) = (n : Int) := by omega
  have hc' : (n : Int) + (data.length : Int) = (c : Int) := by omega
  have hnI : (n : Int) ≤ 60 := by omega
  have hdlI : (data.length : Int) ≤ 65535 := by omega
  have ht' : (t : Int) ≤ 255 := by omega
  have hi' : (i : Int) ≤ 65535 := by omega
  have htt' : (tt : Int) ≤ 255 := by omega
  have hpr' : (pr : Int) ≤ 255 := by omega
  obtain ⟨o1, h1⟩ : ∃ o1, o + 16384 = o1 := ⟨_, rfl⟩
  obtain ⟨o2, h2⟩ : ∃ o2, o + 8192 = o2 := ⟨_, rfl⟩
  obtain ⟨o3, h3⟩ : ∃ o3, o + 16384 + 8192 = o3 := ⟨_, rfl⟩
  have r1 : (o : Int) + 16384 = (o1 : Int) := by omega
  have r2 : (o : Int) + 8192 = (o2 : Int) := by omega
  have r3 : (o1 : Int) + 8192 = (o3 : Int) := by omega
  have b1 : (o1 : Int) ≤ 40000 := by omega
  have H1 := Lib.hid h1
  have H2 := Lib.hid h2
  have H3 := Lib.hid h3
  have HN := Lib.hid hn
  have HC := Lib.hid hc
  have HH := Lib.hid hh
  have c9 : (w.alloc (.cells (p4cells ⟨t, i, tt, pr, df, mf, (o8 : Int), src, dst, opt, data⟩ (.slice da data.length dc)) 25)).cell? ⟨w.heap.size, 9, none⟩ = some (.string ⟨opt.toArray⟩) := hr.cell 9
  have c6 : (w.alloc (.cells (p4cells ⟨t, i, tt, pr, df, mf, (o8 : Int), src, dst, opt, data⟩ (.slice da data.length dc)) 25)).cell? ⟨w.heap.size, 6, none⟩ = some (.int .i64 (o8 : Int)) := hr.cell 6
  have c4 : (w.alloc (.cells (p4cells ⟨t, i, tt, pr, df, mf, (o8 : Int), src, dst, opt, data⟩ (.slice da data.length dc)) 25)).cell? ⟨w.heap.size, 4, none⟩ = some (.bool df) := hr.cell 4
  have c5 : (w.alloc (.cells (p4cells ⟨t, i, tt, pr, df, mf, (o8 : Int), src, dst, opt, data⟩ (.slice da data.length dc)) 25)).cell? ⟨w.heap.size, 5, none⟩ = some (.bool mf) := hr.cell 5
  clear h1 h2 h3 hn hc hh ho8e
  have HK0 := hk0
  go_enter Tryd.func20, Tryd.ntmps20
  have q1 := i64_fit (64 + (h : Int)) (by omega) (by omega)
  have q2 : (64 + (h : Int)) % 256 = 64 + (h : Int) := by omega
  have q3 : (t : Int) % 256 = (t : Int) := by omega
  have q4 : (tt : Int) % 256 = (tt : Int) := by omega
  have q5 : (pr : Int) % 256 = (pr : Int) := by omega
  have q6 := i64_fit (n : Int) (by omega) (by omega)
  have q7 := i64_fit (c : Int) (by omega) (by omega)
  have q8 : ∀ k : Nat, ((k : Int) % 256 = (k : Int)) → True := fun _ _ => trivial
  clear q8
  have q9 : IntKind.u8.wrap (64 + (h : Int)) = 64 + (h : Int) := IntWalk.u8_in _ (by omega)
  obtain ⟨X0, hX0⟩ : ∃ X0, UInt8.ofNat (64 + h) = X0 := ⟨_, rfl⟩
  obtain ⟨Xt, hXt⟩ : ∃ X0, UInt8.ofNat t = X0 := ⟨_, rfl⟩
  obtain ⟨Xl, hXl⟩ : ∃ X0, UInt8.ofNat tt = X0 := ⟨_, rfl⟩
  obtain ⟨Xp, hXp⟩ : ∃ X0, UInt8.ofNat pr = X0 := ⟨_, rfl⟩
  have hX : (64 + (h : Int)) = ((X0.toNat : Nat) : Int) := by rw [← hX0, ofNat_int _ (by omega)]; omega
  have hT : (t : Int) = ((Xt.toNat : Nat) : Int) := by rw [← hXt, ofNat_int t ht]
  have hTT : (tt : Int) = ((Xl.toNat : Nat) : Int) := by rw [← hXl, ofNat_int tt htt]
  have hPR : (pr : Int) = ((Xp.toNat : Nat) : Int) := by rw [← hXp, ofNat_int pr hpr]
  have HX0 := Lib.hid hX0
  have HXt := Lib.hid hXt
  have HXl := Lib.hid hXl
  have HXp := Lib.hid hXp
  clear hX0 hXt hXl hXp
  have HX := Lib.hid hX
  have HT := Lib.hid hT
  have HTT := Lib.hid hTT
  have HPR := Lib.hid hPR
  clear hX hT hTT hPR
  cases df <;> cases mf
  · have hM : offN false false o = o := rfl
    have HM := Lib.hid hM
    have hMle : (o : Int) ≤ 65535 := by omega
    go_wp2
    clear c9 c6 c4 c5 e8 r1 r2 r3 b1
    generalize hw1 : w.alloc _ = w1 at hr hk0 ⊢
    refine region_T [] (fun _ => True) (by kernel_rfl) ?_
    have hC : (fun _ : World => True) w1.drew := trivial
    have hkA := hk0.drew
    refine anyT_take0 (i := 0) (v := ?_) rfl (by kernel_rfl) (by kernel_rfl) (by kernel_rfl) (by kernel_rfl) (by kernel_rfl) (fun _ _ _ h => h) hC (.inl ⟨by rfl, fun _ _ => ?_⟩) ?_
    rotate_left 1
    · go_simp
      try with_reducible rfl
    simp only [Act.put, List.getElem_toArray, List.getElem_cons_succ, List.getElem_cons_zero, List.setIfInBounds_toArray, List.set_cons_zero, List.set_cons_succ]
    refine anyT_take0 (i := 1) (v := ?_) rfl (by kernel_rfl) (by kernel_rfl) (by kernel_rfl) (by kernel_rfl) (by kernel_rfl) (fun _ _ _ h => h) hC (.inl ⟨by rfl, fun _ _ => ?_⟩) ?_
    rotate_left 1
    · go_simp
      try with_reducible rfl
    simp only [Act.put, List.getElem_toArray, List.getElem_cons_succ, List.getElem_cons_zero, List.setIfInBounds_toArray, List.set_cons_zero, List.set_cons_succ]
    refine anyT_take0 (i := 2) (v := ?_) rfl (by kernel_rfl) (by kernel_rfl) (by kernel_rfl) (by kernel_rfl) (by kernel_rfl) (fun _ _ _ h => h) hC (.inl ⟨by rfl, fun _ _ => ?_⟩) ?_
    rotate_left 1
    · go_simp
      try with_reducible rfl
    simp only [Act.put, List.getElem_toArray, List.getElem_cons_succ, List.getElem_cons_zero, List.setIfInBounds_toArray, List.set_cons_zero, List.set_cons_succ]
    refine anyT_take0 (i := 3) (v := ?_) rfl (by kernel_rfl) (by kernel_rfl) (by kernel_rfl) (by kernel_rfl) (by kernel_rfl) (fun _ _ _ h => h) hC (.inl ⟨by rfl, fun _ _ => ?_⟩) ?_
    rotate_left 1
    · go_simp
      try with_reducible rfl
    simp only [Act.put, List.getElem_toArray, List.getElem_cons_succ, List.getElem_cons_zero, List.setIfInBounds_toArray, List.set_cons_zero, List.set_cons_succ]
    refine anyT_take0 (i := 7) (v := ?_) rfl (by kernel_rfl) (by kernel_rfl) (by kernel_rfl) (by kernel_rfl) (by kernel_rfl) (fun _ _ _ h => h) hC (.inl ⟨by rfl, fun _ _ => ?_⟩) ?_
    rotate_left 1
    · go_simp
      try with_reducible rfl
    simp only [Act.put, List.getElem_toArray, List.getElem_cons_succ, List.getElem_cons_zero, List.setIfInBounds_toArray, List.set_cons_zero, List.set_cons_succ]
    refine anyT_take0 (i := 8) (v := ?_) rfl (by kernel_rfl) (by kernel_rfl) (by kernel_rfl) (by kernel_rfl) (by kernel_rfl) (fun _ _ _ h => h) hC (.inl ⟨by rfl, fun _ _ => ?_⟩) ?_
    rotate_left 1
    · go_simp
      try with_reducible rfl
    simp only [Act.put, List.getElem_toArray, List.getElem_cons_succ, List.getElem_cons_zero, List.setIfInBounds_toArray, List.set_cons_zero, List.set_cons_succ]
    refine anyT_take0 (i := 9) (v := ?_) rfl (by kernel_rfl) (by kernel_rfl) (by kernel_rfl) (by kernel_rfl) (by kernel_rfl) (fun _ _ _ h => h) hC (.inl ⟨by rfl, fun _ _ => ?_⟩) ?_
    rotate_left 1
    · go_simp
      try with_reducible rfl
    simp only [Act.put, List.getElem_toArray, List.getElem_cons_succ, List.getElem_cons_zero, List.setIfInBounds_toArray, List.set_cons_zero, List.set_cons_succ]
    refine anyT_take0 (i := 14) (v := ?_) rfl (by kernel_rfl) (by kernel_rfl) (by kernel_rfl) (by kernel_rfl) (by kernel_rfl) (fun _ _ _ h => h) hC (.inl ⟨by rfl, fun _ _ => ?_⟩) ?_
    rotate_left 1
    · go_simp
      try with_reducible rfl
    simp only [Act.put, List.getElem_toArray, List.getElem_cons_succ, List.getElem_cons_zero, List.setIfInBounds_toArray, List.set_cons_zero, List.set_cons_succ]
    refine anyT_take0 (i := 17) (v := ?_) rfl (by kernel_rfl) (by kernel_rfl) (by kernel_rfl) (by kernel_rfl) (by kernel_rfl) (fun _ _ _ h => h) hC (.inl ⟨by rfl, fun _ _ => ?_⟩) ?_
    rotate_left 1
    · go_simp
      try with_reducible rfl
    simp only [Act.put, List.getElem_toArray, List.getElem_cons_succ, List.getElem_cons_zero, List.setIfInBounds_toArray, List.set_cons_zero, List.set_cons_succ]
    refine anyT_take0 (i := 19) (v := ?_) rfl (by kernel_rfl) (by kernel_rfl) (by kernel_rfl) (by kernel_rfl) (by kernel_rfl) (fun _ _ _ h => h) hC (.inl ⟨by rfl, fun _ _ => ?_⟩) ?_
    rotate_left 1
    · go_simp
      try with_reducible rfl
    simp only [Act.put, List.getElem_toArray, List.getElem_cons_succ, List.getElem_cons_zero, List.setIfInBounds_toArray, List.set_cons_zero, List.set_cons_succ]
    refine anyT_take0 (i := 22) (v := ?_) rfl (by kernel_rfl) (by kernel_rfl) (by kernel_rfl) (by kernel_rfl) (by kernel_rfl) (fun _ _ _ h => h) hC (.inl ⟨by rfl, fun _ _ => ?_⟩) ?_
    rotate_left 1
    · go_simp
      try with_reducible rfl
    simp only [Act.put, List.getElem_toArray, List.getElem_cons_succ, List.getElem_cons_zero, List.setIfInBounds_toArray, List.set_cons_zero, List.set_cons_succ]
    refine anyT_par [(4, rEq (.int .i64 (t : Int))), (5, rEq (.int .u8 (t : Int))), (6, rBytes [X0, Xt]), (10, rEq (.slice da data.length dc)), (11, rEq (.int .i64 (data.length : Int))), (12, rEq (.int .i64 (c : Int))), (13, rBytes (b2 c)), (15, rEq (.int .i64 (i : Int))), (16, rBytes (b2 i)), (18, rBytes (b2 o)),
      (20, rEq (.int .i64 (tt : Int))), (21, rEq (.int .u8 (tt : Int))), (23, rEq (.int .i64 (pr : Int))), (24, rEq (.int .u8 (pr : Int))), (25, rBytes [Xl, Xp]), (26, rRows [[X0, Xt], b2 c, b2 i, b2 o, [Xl, Xp]]), (27, rBytes (hd10 t i tt pr o false false opt data)), (28, rBytes (hd10 t i tt pr o false false opt data))] _ [4, 5, 6, 10, 11, 12, 13, 15, 16, 18, 20, 21, 23, 24, 25, 26, 27, 28] (fun _ => trivial) (by kernel_rfl) rfl (by kernel_rfl) rfl ?_
    refine ⟨_, rfl, fun w2 hk2 hK => ?_, fun u4 => ?_⟩
    rotate_left 1
    simp only [dstOf, Act.put, List.getElem?_toArray, List.getElem?_cons_succ, List.getElem?_cons_zero, Option.bind_some, List.setIfInBounds_toArray, List.set_cons_zero, List.set_cons_succ, List.nil_append, List.cons_append]
    rotate_left 1
    · have hcc := (hr.keeps (S := fun _ => False) ((Keeps.refl (fun _ => False) w1).drew.trans hk2 (fun _ _ h => h)) (fun h => h)).cell 0
      simp only [p4cells, List.getElem?_toArray, List.getElem?_cons_succ, List.getElem?_cons_zero] at hcc
      go_wp2
      exact ⟨_, rfl, rfl, Keeps.refl _ _⟩
    refine ⟨_, rfl, fun w2 hk2 hK => ?_, fun u5 => ?_⟩
    rotate_left 1
    simp only [dstOf, Act.put, List.getElem?_toArray, List.getElem?_cons_succ, List.getElem?_cons_zero, Option.bind_some, List.setIfInBounds_toArray, List.set_cons_zero, List.set_cons_succ, List.nil_append, List.cons_append]
    rotate_left 1
    · obtain rfl : u4 = .int .i64 (t : Int) := hK (4, u4) (by simp) (by kernel_rfl)
      go_wp2
      exact ⟨_, rfl, rfl, Keeps.refl _ _⟩
    refine ⟨_, rfl, fun w2 hk2 hK => ?_, fun u6 => ?_⟩
    rotate_left 1
    simp only [dstOf, Act.put, List.getElem?_toArray, List.getElem?_cons_succ, List.getElem?_cons_zero, Option.bind_some, List.setIfInBounds_toArray, List.set_cons_zero, List.set_cons_succ, List.nil_append, List.cons_append]
    rotate_left 1
    · obtain rfl : u5 = .int .u8 (t : Int) := hK (5, u5) (by simp) (by kernel_rfl)
      go_wp2
      exact ⟨_, rfl, (BAt.lit _ _ [X0, Xt] 2 _ (by rw [HX.out, HT.out]; rfl) rfl (by omega)).low, (Keeps.refl _ _).alloc _⟩
    refine ⟨_, rfl, fun w2 hk2 hK => ?_, fun u10 => ?_⟩
    rotate_left 1
    simp only [dstOf, Act.put, List.getElem?_toArray, List.getElem?_cons_succ, List.getElem?_cons_zero, Option.bind_some, List.setIfInBounds_toArray, List.set_cons_zero, List.set_cons_succ, List.nil_append, List.cons_append]
    rotate_left 1
    · have hcc := (hr.keeps (S := fun _ => False) ((Keeps.refl (fun _ => False) w1).drew.trans hk2 (fun _ _ h => h)) (fun h => h)).cell 10
      simp only [p4cells, List.getElem?_toArray, List.getElem?_cons_succ, List.getElem?_cons_zero] at hcc
      go_wp2
      exact ⟨_, rfl, rfl, Keeps.refl _ _⟩
    refine ⟨_, rfl, fun w2 hk2 hK => ?_, fun u11 => ?_⟩
    rotate_left 1
    simp only [dstOf, Act.put, List.getElem?_toArray, List.getElem?_cons_succ, List.getElem?_cons_zero, Option.bind_some, List.setIfInBounds_toArray, List.set_cons_zero, List.set_cons_succ, List.nil_append, List.cons_append]
    rotate_left 1
    · obtain rfl : u10 = .slice da data.length dc := hK (10, u10) (by simp) (by kernel_rfl)
      go_wp2
      exact ⟨_, rfl, rfl, Keeps.refl _ _⟩
    refine ⟨_, rfl, fun w2 hk2 hK => ?_, fun u12 => ?_⟩
    rotate_left 1
    simp only [dstOf, Act.put, List.getElem?_toArray, List.getElem?_cons_succ, List.getElem?_cons_zero, Option.bind_some, List.setIfInBounds_toArray, List.set_cons_zero, List.set_cons_succ, List.nil_append, List.cons_append]
    rotate_left 1
    · obtain rfl : u11 = .int .i64 (data.length : Int) := hK (11, u11) (by simp) (by kernel_rfl)
      go_wp2
      exact ⟨_, rfl, rfl, Keeps.refl _ _⟩
    refine ⟨_, rfl, fun w2 hk2 hK => ?_, fun u13 => ?_⟩
    rotate_left 1
    simp only [dstOf, Act.put, List.getElem?_toArray, List.getElem?_cons_succ, List.getElem?_cons_zero, Option.bind_some, List.setIfInBounds_toArray, List.set_cons_zero, List.set_cons_succ, List.nil_append, List.cons_append]
    rotate_left 1
    · obtain rfl : u12 = .int .i64 (c : Int) := hK (12, u12) (by simp) (by kernel_rfl)
      go_wp2_with (refine (rtwo_any c _ (by have := HC.out; have := HN.out; omega)).mono ?_; rintro e w3 ⟨v3, rfl, ho3, hk3⟩)
      exact ⟨_, rfl, ho3.bat.low, hk3⟩
    refine ⟨_, rfl, fun w2 hk2 hK => ?_, fun u15 => ?_⟩
    rotate_left 1
    simp only [dstOf, Act.put, List.getElem?_toArray, List.getElem?_cons_succ, List.getElem?_cons_zero, Option.bind_some, List.setIfInBounds_toArray, List.set_cons_zero, List.set_cons_succ, List.nil_append, List.cons_append]
    rotate_left 1
    · have hcc := (hr.keeps (S := fun _ => False) ((Keeps.refl (fun _ => False) w1).drew.trans hk2 (fun _ _ h => h)) (fun h => h)).cell 1
      simp only [p4cells, List.getElem?_toArray, List.getElem?_cons_succ, List.getElem?_cons_zero] at hcc
      go_wp2
      exact ⟨_, rfl, rfl, Keeps.refl _ _⟩
    refine ⟨_, rfl, fun w2 hk2 hK => ?_, fun u16 => ?_⟩
    rotate_left 1
    simp only [dstOf, Act.put, List.getElem?_toArray, List.getElem?_cons_succ, List.getElem?_cons_zero, Option.bind_some, List.setIfInBounds_toArray, List.set_cons_zero, List.set_cons_succ, List.nil_append, List.cons_append]
    rotate_left 1
    · obtain rfl : u15 = .int .i64 (i : Int) := hK (15, u15) (by simp) (by kernel_rfl)
      go_wp2_with (refine (rtwo_any i _ hi).mono ?_; rintro e w3 ⟨v3, rfl, ho3, hk3⟩)
      exact ⟨_, rfl, ho3.bat.low, hk3⟩
    refine ⟨_, rfl, fun w2 hk2 hK => ?_, fun u18 => ?_⟩
    rotate_left 1
    simp only [dstOf, Act.put, List.getElem?_toArray, List.getElem?_cons_succ, List.getElem?_cons_zero, Option.bind_some, List.setIfInBounds_toArray, List.set_cons_zero, List.set_cons_succ, List.nil_append, List.cons_append]
    rotate_left 1
    · go_wp2_with (refine (rtwo_any o _ (by omega)).mono ?_; rintro e w3 ⟨v3, rfl, ho3, hk3⟩)
      exact ⟨_, rfl, ho3.bat.low, hk3⟩
    refine ⟨_, rfl, fun w2 hk2 hK => ?_, fun u20 => ?_⟩
    rotate_left 1
    simp only [dstOf, Act.put, List.getElem?_toArray, List.getElem?_cons_succ, List.getElem?_cons_zero, Option.bind_some, List.setIfInBounds_toArray, List.set_cons_zero, List.set_cons_succ, List.nil_append, List.cons_append]
    rotate_left 1
    · have hcc := (hr.keeps (S := fun _ => False) ((Keeps.refl (fun _ => False) w1).drew.trans hk2 (fun _ _ h => h)) (fun h => h)).cell 2
      simp only [p4cells, List.getElem?_toArray, List.getElem?_cons_succ, List.getElem?_cons_zero] at hcc
      go_wp2
      exact ⟨_, rfl, rfl, Keeps.refl _ _⟩
    refine ⟨_, rfl, fun w2 hk2 hK => ?_, fun u21 => ?_⟩
    rotate_left 1
    simp only [dstOf, Act.put, List.getElem?_toArray, List.getElem?_cons_succ, List.getElem?_cons_zero, Option.bind_some, List.setIfInBounds_toArray, List.set_cons_zero, List.set_cons_succ, List.nil_append, List.cons_append]
    rotate_left 1
    · obtain rfl : u20 = .int .i64 (tt : Int) := hK (20, u20) (by simp) (by kernel_rfl)
      go_wp2
      exact ⟨_, rfl, rfl, Keeps.refl _ _⟩
    refine ⟨_, rfl, fun w2 hk2 hK => ?_, fun u23 => ?_⟩
    rotate_left 1
    simp only [dstOf, Act.put, List.getElem?_toArray, List.getElem?_cons_succ, List.getElem?_cons_zero, Option.bind_some, List.setIfInBounds_toArray, List.set_cons_zero, List.set_cons_succ, List.nil_append, List.cons_append]
    rotate_left 1
    · have hcc := (hr.keeps (S := fun _ => False) ((Keeps.refl (fun _ => False) w1).drew.trans hk2 (fun _ _ h => h)) (fun h => h)).cell 3
      simp only [p4cells, List.getElem?_toArray, List.getElem?_cons_succ, List.getElem?_cons_zero] at hcc
      go_wp2
      exact ⟨_, rfl, rfl, Keeps.refl _ _⟩
    refine ⟨_, rfl, fun w2 hk2 hK => ?_, fun u24 => ?_⟩
    rotate_left 1
    simp only [dstOf, Act.put, List.getElem?_toArray, List.getElem?_cons_succ, List.getElem?_cons_zero, Option.bind_some, List.setIfInBounds_toArray, List.set_cons_zero, List.set_cons_succ, List.nil_append, List.cons_append]
    rotate_left 1
    · obtain rfl : u23 = .int .i64 (pr : Int) := hK (23, u23) (by simp) (by kernel_rfl)
      go_wp2
      exact ⟨_, rfl, rfl, Keeps.refl _ _⟩
    refine ⟨_, rfl, fun w2 hk2 hK => ?_, fun u25 => ?_⟩
    rotate_left 1
    simp only [dstOf, Act.put, List.getElem?_toArray, List.getElem?_cons_succ, List.getElem?_cons_zero, Option.bind_some, List.setIfInBounds_toArray, List.set_cons_zero, List.set_cons_succ, List.nil_append, List.cons_append]
    rotate_left 1
    · obtain rfl : u21 = .int .u8 (tt : Int) := hK (21, u21) (by simp) (by kernel_rfl)
      obtain rfl : u24 = .int .u8 (pr : Int) := hK (24, u24) (by simp) (by kernel_rfl)
      go_wp2
      exact ⟨_, rfl, (BAt.lit _ _ [Xl, Xp] 2 _ (by rw [HTT.out, HPR.out]; rfl) rfl (by omega)).low, (Keeps.refl _ _).alloc _⟩
    refine ⟨_, rfl, fun w2 hk2 hK => ?_, fun u26 => ?_⟩
    rotate_left 1
    simp only [dstOf, Act.put, List.getElem?_toArray, List.getElem?_cons_succ, List.getElem?_cons_zero, Option.bind_some, List.setIfInBounds_toArray, List.set_cons_zero, List.set_cons_succ, List.nil_append, List.cons_append]
    rotate_left 1
    · have k6 : BRd w2 u6 [X0, Xt] := hK (6, u6) (by simp) (by kernel_rfl)
      have k13 : BRd w2 u13 (b2 c) := hK (13, u13) (by simp) (by kernel_rfl)
      have k16 : BRd w2 u16 (b2 i) := hK (16, u16) (by simp) (by kernel_rfl)
      have k18 : BRd w2 u18 (b2 o) := hK (18, u18) (by simp) (by kernel_rfl)
      have k25 : BRd w2 u25 [Xl, Xp] := hK (25, u25) (by simp) (by kernel_rfl)
      obtain ⟨s6, z6, rfl, -, -⟩ := BAt.slice k6
      obtain ⟨s13, z13, rfl, -, -⟩ := BAt.slice k13
      obtain ⟨s16, z16, rfl, -, -⟩ := BAt.slice k16
      obtain ⟨s18, z18, rfl, -, -⟩ := BAt.slice k18
      obtain ⟨s25, z25, rfl, -, -⟩ := BAt.slice k25
      go_wp2
      exact ⟨_, rfl, (BBAt.lits (q := (· < w2.heap.size)) _ [_, _, _, _, _] [[X0, Xt], b2 c, b2 i, b2 o, [Xl, Xp]] 5 rfl rfl (by omega) ⟨k6, k13, k16, k18, k25, trivial⟩).low, (Keeps.refl _ _).alloc _⟩
    refine ⟨_, rfl, fun w2 hk2 hK => ?_, fun u27 => ?_⟩
    rotate_left 1
    simp only [dstOf, Act.put, List.getElem?_toArray, List.getElem?_cons_succ, List.getElem?_cons_zero, Option.bind_some, List.setIfInBounds_toArray, List.set_cons_zero, List.set_cons_succ, List.nil_append, List.cons_append]
    rotate_left 1
    · have k26 : BBRd w2 u26 [[X0, Xt], b2 c, b2 i, b2 o, [Xl, Xp]] := hK (26, u26) (by simp) (by kernel_rfl)
      go_wp2_with (refine (both_any _ _ _ k26 (by simp [b2])).mono ?_; rintro e w3 ⟨v3, rfl, ho3, hk3⟩)
      have e1 : [[X0, Xt], b2 c, b2 i, b2 o, [Xl, Xp]].flatten = hd10 t i tt pr o false false opt data := by
        unfold hd10 fr10
        rw [HN.out, HC.out, HH.out, HM.out, HX0.out, HXt.out, HXl.out, HXp.out]
        rfl
      rw [e1] at ho3
      exact ⟨_, rfl, ho3.bat.low, hk3⟩
    refine ⟨_, rfl, fun w2 hk2 hK => ?_, fun u28 => ?_⟩
    rotate_left 1
    simp only [dstOf, Act.put, List.getElem?_toArray, List.getElem?_cons_succ, List.getElem?_cons_zero, Option.bind_some, List.setIfInBounds_toArray, List.set_cons_zero, List.set_cons_succ, List.nil_append, List.cons_append]
    rotate_left 1
    · have k27 : BRd w2 u27 (hd10 t i tt pr o false false opt data) := hK (27, u27) (by simp) (by kernel_rfl)
      go_wp2
      exact ⟨_, rfl, k27, Keeps.refl _ _⟩
    intro w2 hk2 hK
    have k28 : BRd w2 u28 (hd10 t i tt pr o false false opt data) := hK (28, u28) (by simp)
    have hr2 := hr.keeps (S := fun _ => False) ((Keeps.refl (fun _ => False) w1).drew.trans hk2 (fun _ _ h => h)) (fun h => h)
    have hkB := hkA.trans hk2 (fun _ _ h => h)
    clear hK hC hkA hk2 hk0 hw1 hr q9 q1 q2 q3 q4 q5 q6 q7 HX HT HTT HPR e4h hc' eh
    obtain ⟨s28, z28, rfl, hz28, hzm28⟩ := BAt.slice k28
    have c7 : w2.cell? ⟨w.heap.size, 7, none⟩ = some (.string ⟨src.toArray⟩) := hr2.cell 7
    have c8 : w2.cell? ⟨w.heap.size, 8, none⟩ = some (.string ⟨dst.toArray⟩) := hr2.cell 8
    have c9 : w2.cell? ⟨w.heap.size, 9, none⟩ = some (.string ⟨opt.toArray⟩) := hr2.cell 9
    have e1 := ba_append src dst
    obtain ⟨sd, hsd⟩ : ∃ sd, src ++ dst = sd := ⟨_, rfl⟩
    rw [hsd] at e1
    have e2 := ba_append sd opt
    obtain ⟨bk, hbk⟩ : ∃ bk, sd ++ opt = bk := ⟨_, rfl⟩
    rw [hbk] at e2
    have hbkl : bk.length ≤ 100 := by rw [← hbk, ← hsd, List.length_append, List.length_append]; omega
    have hsl : sd.length = 8 := by rw [← hsd, List.length_append]; omega
    have HBK := Lib.hid hbk
    have HSD := Lib.hid hsd
    have hcv := conv_text w2 bk
    have hB0 := BAt.ofText w2 bk (by omega)
    have hkC := hkB.trans (Keeps.bytesWorld w2 5 ⟨bk.toArray⟩) (fun _ _ h => h)
    have hr3 := hr2.keeps (Keeps.bytesWorld w2 5 ⟨bk.toArray⟩) (fun h => h)
    have k29 := BRd.keeps k28 (Keeps.bytesWorld w2 5 ⟨bk.toArray⟩)
    obtain ⟨gc, hgc⟩ : ∃ gc, grownCap w2 bk.length 0 5 = gc := ⟨_, rfl⟩
    rw [hgc] at hcv hB0
    generalize hw3 : Lib.bytesWorld w2 5 ⟨bk.toArray⟩ = w3 at hcv hB0 hkC hr3 k29
    clear hbk hsd hgc hw3
    have HCV := Lib.hid hcv
    have hs0 : (src.length : Int) = 4 := by omega
    obtain ⟨HX10, hHX⟩ : ∃ L, hd10 t i tt pr o false false opt data = L := ⟨_, rfl⟩
    rw [hHX] at k29 hz28
    have hHl : HX10.length = 10 := by rw [← hHX]; rfl
    have HHl := Lib.hid hHl
    have HHX := Lib.hid hHX
    have hZ := BAt.lit w3 #[.int .u8 0, .int .u8 0] [0, 0] 2 5 rfl rfl (by omega)
    have hkZ := (Keeps.refl (fun _ => False) w3).alloc (.cells #[.int .u8 0, .int .u8 0] 5)
    have hrows := BBAt.lits (T := 22) (w := w3.alloc (.cells #[.int .u8 0, .int .u8 0] 5)) (q := (· < (w3.alloc (.cells #[.int .u8 0, .int .u8 0] 5)).heap.size)) #[.slice s28 HX10.length z28, .slice (some ⟨w3.heap.size, 0, none⟩) 2 2, .slice (some ⟨w2.heap.size, 0, none⟩) bk.length gc] _ [HX10, [0, 0], bk] 3 rfl rfl (by omega)
      ⟨BRd.keeps k29 hkZ, hZ.low, (BAt.keeps hB0 hkZ (fun _ _ h => h)).low, trivial⟩
    rw [size_alloc] at hrows
    have hflat : [HX10, [0, 0], bk].flatten = hdN t i tt pr o false false src dst opt data := by
      rw [← HBK.out, ← HSD.out, ← hHX]
      unfold hdN
      simp
    have hfl : (hdN t i tt pr o false false src dst opt data).length = 12 + bk.length := by rw [← hflat]; simp [hHl]; omega
    obtain ⟨CC, hCC⟩ : ∃ CC, 65535 - sum16 (hdN t i tt pr o false false src dst opt data) = CC := ⟨_, rfl⟩
    have hboth := both_any _ _ _ hrows.low (by rw [hflat, hfl]; omega)
    rw [hflat] at hboth
    have HB := Lib.hid hboth
    have HCC := Lib.hid hCC
    have hkE := (hkC.alloc (.cells #[.int .u8 0, .int .u8 0] 5)).alloc (.cells #[.slice s28 HX10.length z28, .slice (some ⟨w3.heap.size, 0, none⟩) 2 2, .slice (some ⟨w2.heap.size, 0, none⟩) bk.length gc] 22)
    have hkR := ((Keeps.refl (fun _ => False) w3).alloc (.cells #[.int .u8 0, .int .u8 0] 5)).alloc (.cells #[.slice s28 HX10.length z28, .slice (some ⟨w3.heap.size, 0, none⟩) 2 2, .slice (some ⟨w2.heap.size, 0, none⟩) bk.length gc] 22)
    have HFL := Lib.hid hfl
    clear hboth hflat hHX hCC hrows hZ hkZ hfl hHl
    go_wp2_with fail
    rw [HHX.out]
    refine HB.out.mono ?_
    rintro e w4 ⟨v4, rfl, ho4, hk4⟩
    have hkF := hkE.trans hk4 (fun _ _ h => h)
    have hr4 := (hr3.keeps hkR (fun h => h)).keeps hk4 (fun h => h)
    have k30 := BRd.keeps (BRd.keeps k29 hkR) hk4
    have hB1 := (BAt.keeps (BAt.keeps hB0 hkR (fun _ _ h => h)) hk4 (fun _ _ h => h)).low
    have hchk := rchk_any v4 _ w4 ho4.bat.low (by rw [HFL.out]; omega)
    rw [HCC.out] at hchk
    have HCHK := Lib.hid hchk
    clear hchk hk4 ho4 hkE hr3 k29 hB0 hkC hkR HB hkB hr2 k28 c7 c8 c9 e1 e2 hcv
    go_wp2_with (go_at_call 34; refine HCHK.out.mono ?_; rintro e w5 ⟨rfl, rfl⟩)
    refine region_T [] (fun _ => True) (by kernel_rfl) ?_
    have hC : (fun _ : World => True) w4.drew := trivial
    have hkA := hkF.drew
    refine anyT_take0 (i := 0) (v := ?_) rfl (by kernel_rfl) (by kernel_rfl) (by kernel_rfl) (by kernel_rfl) (by kernel_rfl) (fun _ _ _ h => h) hC (.inl ⟨by rfl, fun _ _ => ?_⟩) ?_
    rotate_left 1
    · go_simp
      try with_reducible rfl
    simp only [Act.put, List.getElem_toArray, List.getElem_cons_succ, List.getElem_cons_zero, List.setIfInBounds_toArray, List.set_cons_zero, List.set_cons_succ]
    refine anyT_take0 (i := 1) (v := ?_) rfl (by kernel_rfl) (by kernel_rfl) (by kernel_rfl) (by kernel_rfl) (by kernel_rfl) (fun _ _ _ h => h) hC (.inl ⟨by rfl, fun _ _ => ?_⟩) ?_
    rotate_left 1
    · go_simp
      try with_reducible rfl
    simp only [Act.put, List.getElem_toArray, List.getElem_cons_succ, List.getElem_cons_zero, List.setIfInBounds_toArray, List.set_cons_zero, List.set_cons_succ]
    refine anyT_take0 (i := 3) (v := ?_) rfl (by kernel_rfl) (by kernel_rfl) (by kernel_rfl) (by kernel_rfl) (by kernel_rfl) (fun _ _ _ h => h) hC (.inl ⟨by rfl, fun _ _ => ?_⟩) ?_
    rotate_left 1
    · go_simp
      try with_reducible rfl
    simp only [Act.put, List.getElem_toArray, List.getElem_cons_succ, List.getElem_cons_zero, List.setIfInBounds_toArray, List.set_cons_zero, List.set_cons_succ]
    refine anyT_take0 (i := 4) (v := ?_) rfl (by kernel_rfl) (by kernel_rfl) (by kernel_rfl) (by kernel_rfl) (by kernel_rfl) (fun _ _ _ h => h) hC (.inl ⟨by rfl, fun _ _ => ?_⟩) ?_
    rotate_left 1
    · go_simp
      try with_reducible rfl
    simp only [Act.put, List.getElem_toArray, List.getElem_cons_succ, List.getElem_cons_zero, List.setIfInBounds_toArray, List.set_cons_zero, List.set_cons_succ]
    refine anyT_par [(2, rBytes (b2 CC)), (5, rEq (.slice da data.length dc)), (6, rRows [HX10, b2 CC, bk, data]), (7, rBytes (bytesN t i tt pr o false false src dst opt data)), (8, rBytes (bytesN t i tt pr o false false src dst opt data))] _ [2, 5, 6, 7, 8] (fun _ => trivial) (by kernel_rfl) rfl (by kernel_rfl) rfl ?_
    refine ⟨_, rfl, fun w2 hk2 hK => ?_, fun u2 => ?_⟩
    rotate_left 1
    simp only [dstOf, Act.put, List.getElem?_toArray, List.getElem?_cons_succ, List.getElem?_cons_zero, Option.bind_some, List.setIfInBounds_toArray, List.set_cons_zero, List.set_cons_succ, List.nil_append, List.cons_append]
    rotate_left 1
    · go_wp2_with (refine (rtwo_any CC _ (by have := HCC.out; omega)).mono ?_; rintro e w3 ⟨v3, rfl, ho3, hk3⟩)
      exact ⟨_, rfl, ho3.bat.low, hk3⟩
    refine ⟨_, rfl, fun w2 hk2 hK => ?_, fun u5 => ?_⟩
    rotate_left 1
    simp only [dstOf, Act.put, List.getElem?_toArray, List.getElem?_cons_succ, List.getElem?_cons_zero, Option.bind_some, List.setIfInBounds_toArray, List.set_cons_zero, List.set_cons_succ, List.nil_append, List.cons_append]
    rotate_left 1
    · have hcc := (hr4.keeps (S := fun _ => False) ((Keeps.refl (fun _ => False) w4).drew.trans hk2 (fun _ _ h => h)) (fun h => h)).cell 10
      simp only [p4cells, List.getElem?_toArray, List.getElem?_cons_succ, List.getElem?_cons_zero] at hcc
      go_wp2
      exact ⟨_, rfl, rfl, Keeps.refl _ _⟩
    refine ⟨_, rfl, fun w2 hk2 hK => ?_, fun u6 => ?_⟩
    rotate_left 1
    simp only [dstOf, Act.put, List.getElem?_toArray, List.getElem?_cons_succ, List.getElem?_cons_zero, Option.bind_some, List.setIfInBounds_toArray, List.set_cons_zero, List.set_cons_succ, List.nil_append, List.cons_append]
    rotate_left 1
    · have k6 : BRd w2 u2 (b2 CC) := hK (2, u2) (by simp) (by kernel_rfl)
      obtain rfl : u5 = .slice da data.length dc := hK (5, u5) (by simp) (by kernel_rfl)
      have hkX := (Keeps.refl (fun _ => False) w4).drew.trans hk2 (fun _ _ h => h)
      have k7 := BRd.keeps k30 hkX
      have k8 := BRd.keeps (l := bk) hB1 hkX
      have k9 := hd.keeps (hkF.drew.trans hk2 (fun _ _ h => h))
      obtain ⟨s6, z6, rfl, -, -⟩ := BAt.slice k6
      go_wp2
      exact ⟨_, rfl, (BBAt.lits (q := (· < w2.heap.size)) _ [_, _, _, _] [HX10, b2 CC, bk, data] 4 rfl rfl (by omega) ⟨k7, k6, k8, k9, trivial⟩).low, (Keeps.refl _ _).alloc _⟩
    refine ⟨_, rfl, fun w2 hk2 hK => ?_, fun u7 => ?_⟩
    rotate_left 1
    simp only [dstOf, Act.put, List.getElem?_toArray, List.getElem?_cons_succ, List.getElem?_cons_zero, Option.bind_some, List.setIfInBounds_toArray, List.set_cons_zero, List.set_cons_succ, List.nil_append, List.cons_append]
    rotate_left 1
    · have k26 : BBRd w2 u6 [HX10, b2 CC, bk, data] := hK (6, u6) (by simp) (by kernel_rfl)
      go_wp2_with (refine (both_any _ _ _ k26 (by have := HHl.out; simp [b2]; omega)).mono ?_; rintro e w3 ⟨v3, rfl, ho3, hk3⟩)
      have e1 : [HX10, b2 CC, bk, data].flatten = bytesN t i tt pr o false false src dst opt data := by
        unfold bytesN
        rw [HCC.out, HHX.out, ← HBK.out, ← HSD.out]
        simp
      rw [e1] at ho3
      exact ⟨_, rfl, ho3.bat.low, hk3⟩
    refine ⟨_, rfl, fun w2 hk2 hK => ?_, fun u8 => ?_⟩
    rotate_left 1
    simp only [dstOf, Act.put, List.getElem?_toArray, List.getElem?_cons_succ, List.getElem?_cons_zero, Option.bind_some, List.setIfInBounds_toArray, List.set_cons_zero, List.set_cons_succ, List.nil_append, List.cons_append]
    rotate_left 1
    · have k27 : BRd w2 u7 (bytesN t i tt pr o false false src dst opt data) := hK (7, u7) (by simp) (by kernel_rfl)
      go_wp2
      exact ⟨_, rfl, k27, Keeps.refl _ _⟩
    intro w2 hk2 hK
    have k28 : BRd w2 u8 (bytesN t i tt pr o false false src dst opt data) := hK (8, u8) (by simp)
    go_wp2
    go_ret
    exact ⟨_, rfl, k28, hkA.trans hk2 (fun _ _ h => h)⟩
  · have hM : offN false true o = o2 := H2.out
    have HM := Lib.hid hM
    have hMle : (o2 : Int) ≤ 65535 := by omega
    go_wp2
    clear c9 c6 c4 c5 e8 r1 r2 r3 b1
    generalize hw1 : w.alloc _ = w1 at hr hk0 ⊢
    refine region_T [] (fun _ => True) (by kernel_rfl) ?_
    have hC : (fun _ : World => True) w1.drew := trivial
    have hkA := hk0.drew
    refine anyT_take0 (i := 0) (v := ?_) rfl (by kernel_rfl) (by kernel_rfl) (by kernel_rfl) (by kernel_rfl) (by kernel_rfl) (fun _ _ _ h => h) hC (.inl ⟨by rfl, fun _ _ => ?_⟩) ?_
    rotate_left 1
    · go_simp
      try with_reducible rfl
    simp only [Act.put, List.getElem_toArray, List.getElem_cons_succ, List.getElem_cons_zero, List.setIfInBounds_toArray, List.set_cons_zero, List.set_cons_succ]
    refine anyT_take0 (i := 1) (v := ?_) rfl (by kernel_rfl) (by kernel_rfl) (by kernel_rfl) (by kernel_rfl) (by kernel_rfl) (fun _ _ _ h => h) hC (.inl ⟨by rfl, fun _ _ => ?_⟩) ?_
    rotate_left 1
    · go_simp
      try with_reducible rfl
    simp only [Act.put, List.getElem_toArray, List.getElem_cons_succ, List.getElem_cons_zero, List.setIfInBounds_toArray, List.set_cons_zero, List.set_cons_succ]
    refine anyT_take0 (i := 2) (v := ?_) rfl (by kernel_rfl) (by kernel_rfl) (by kernel_rfl) (by kernel_rfl) (by kernel_rfl) (fun _ _ _ h => h) hC (.inl ⟨by rfl, fun _ _ => ?_⟩) ?_
    rotate_left 1
    · go_simp
      try with_reducible rfl
    simp only [Act.put, List.getElem_toArray, List.getElem_cons_succ, List.getElem_cons_zero, List.setIfInBounds_toArray, List.set_cons_zero, List.set_cons_succ]
    refine anyT_take0 (i := 3) (v := ?_) rfl (by kernel_rfl) (by kernel_rfl) (by kernel_rfl) (by kernel_rfl) (by kernel_rfl) (fun _ _ _ h => h) hC (.inl ⟨by rfl, fun _ _ => ?_⟩) ?_
    rotate_left 1
    · go_simp
      try with_reducible rfl
    simp only [Act.put, List.getElem_toArray, List.getElem_cons_succ, List.getElem_cons_zero, List.setIfInBounds_toArray, List.set_cons_zero, List.set_cons_succ]
    refine anyT_take0 (i := 7) (v := ?_) rfl (by kernel_rfl) (by kernel_rfl) (by kernel_rfl) (by kernel_rfl) (by kernel_rfl) (fun _ _ _ h => h) hC (.inl ⟨by rfl, fun _ _ => ?_⟩) ?_
    rotate_left 1
    · go_simp
      try with_reducible rfl
    simp only [Act.put, List.getElem_toArray, List.getElem_cons_succ, List.getElem_cons_zero, List.setIfInBounds_toArray, List.set_cons_zero, List.set_cons_succ]
    refine anyT_take0 (i := 8) (v := ?_) rfl (by kernel_rfl) (by kernel_rfl) (by kernel_rfl) (by kernel_rfl) (by kernel_rfl) (fun _ _ _ h => h) hC (.inl ⟨by rfl, fun _ _ => ?_⟩) ?_
    rotate_left 1
    · go_simp
      try with_reducible rfl
    simp only [Act.put, List.getElem_toArray, List.getElem_cons_succ, List.getElem_cons_zero, List.setIfInBounds_toArray, List.set_cons_zero, List.set_cons_succ]
    refine anyT_take0 (i := 9) (v := ?_) rfl (by kernel_rfl) (by kernel_rfl) (by kernel_rfl) (by kernel_rfl) (by kernel_rfl) (fun _ _ _ h => h) hC (.inl ⟨by rfl, fun _ _ => ?_⟩) ?_
    rotate_left 1
    · go_simp
      try with_reducible rfl
    simp only [Act.put, List.getElem_toArray, List.getElem_cons_succ, List.getElem_cons_zero, List.setIfInBounds_toArray, List.set_cons_zero, List.set_cons_succ]
    refine anyT_take0 (i := 14) (v := ?_) rfl (by kernel_rfl) (by kernel_rfl) (by kernel_rfl) (by kernel_rfl) (by kernel_rfl) (fun _ _ _ h => h) hC (.inl ⟨by rfl, fun _ _ => ?_⟩) ?_
    rotate_left 1
    · go_simp
      try with_reducible rfl
    simp only [Act.put, List.getElem_toArray, List.getElem_cons_succ, List.getElem_cons_zero, List.setIfInBounds_toArray, List.set_cons_zero, List.set_cons_succ]
    refine anyT_take0 (i := 17) (v := ?_) rfl (by kernel_rfl) (by kernel_rfl) (by kernel_rfl) (by kernel_rfl) (by kernel_rfl) (fun _ _ _ h => h) hC (.inl ⟨by rfl, fun _ _ => ?_⟩) ?_
    rotate_left 1
    · go_simp
      try with_reducible rfl
    simp only [Act.put, List.getElem_toArray, List.getElem_cons_succ, List.getElem_cons_zero, List.setIfInBounds_toArray, List.set_cons_zero, List.set_cons_succ]
    refine anyT_take0 (i := 19) (v := ?_) rfl (by kernel_rfl) (by kernel_rfl) (by kernel_rfl) (by kernel_rfl) (by kernel_rfl) (fun _ _ _ h => h) hC (.inl ⟨by rfl, fun _ _ => ?_⟩) ?_
    rotate_left 1
    · go_simp
      try with_reducible rfl
    simp only [Act.put, List.getElem_toArray, List.getElem_cons_succ, List.getElem_cons_zero, List.setIfInBounds_toArray, List.set_cons_zero, List.set_cons_succ]
    refine anyT_take0 (i := 22) (v := ?_) rfl (by kernel_rfl) (by kernel_rfl) (by kernel_rfl) (by kernel_rfl) (by kernel_rfl) (fun _ _ _ h => h) hC (.inl ⟨by rfl, fun _ _ => ?_⟩) ?_
    rotate_left 1
    · go_simp
      try with_reducible rfl
    simp only [Act.put, List.getElem_toArray, List.getElem_cons_succ, List.getElem_cons_zero, List.setIfInBounds_toArray, List.set_cons_zero, List.set_cons_succ]
    refine anyT_par [(4, rEq (.int .i64 (t : Int))), (5, rEq (.int .u8 (t : Int))), (6, rBytes [X0, Xt]), (10, rEq (.slice da data.length dc)), (11, rEq (.int .i64 (data.length : Int))), (12, rEq (.int .i64 (c : Int))), (13, rBytes (b2 c)), (15, rEq (.int .i64 (i : Int))), (16, rBytes (b2 i)), (18, rBytes (b2 o2)),
      (20, rEq (.int .i64 (tt : Int))), (21, rEq (.int .u8 (tt : Int))), (23, rEq (.int .i64 (pr : Int))), (24, rEq (.int .u8 (pr : Int))), (25, rBytes [Xl, Xp]), (26, rRows [[X0, Xt], b2 c, b2 i, b2 o2, [Xl, Xp]]), (27, rBytes (hd10 t i tt pr o false true opt data)), (28, rBytes (hd10 t i tt pr o false true opt data))] _ [4, 5, 6, 10, 11, 12, 13, 15, 16, 18, 20, 21, 23, 24, 25, 26, 27, 28] (fun _ => trivial) (by kernel_rfl) rfl (by kernel_rfl) rfl ?_
    refine ⟨_, rfl, fun w2 hk2 hK => ?_, fun u4 => ?_⟩
    rotate_left 1
    simp only [dstOf, Act.put, List.getElem?_toArray, List.getElem?_cons_succ, List.getElem?_cons_zero, Option.bind_some, List.setIfInBounds_toArray, List.set_cons_zero, List.set_cons_succ, List.nil_append, List.cons_append]
    rotate_left 1
    · have hcc := (hr.keeps (S := fun _ => False) ((Keeps.refl (fun _ => False) w1).drew.trans hk2 (fun _ _ h => h)) (fun h => h)).cell 0
      simp only [p4cells, List.getElem?_toArray, List.getElem?_cons_succ, List.getElem?_cons_zero] at hcc
      go_wp2
      exact ⟨_, rfl, rfl, Keeps.refl _ _⟩
    refine ⟨_, rfl, fun w2 hk2 hK => ?_, fun u5 => ?_⟩
    rotate_left 1
    simp only [dstOf, Act.put, List.getElem?_toArray, List.getElem?_cons_succ, List.getElem?_cons_zero, Option.bind_some, List.setIfInBounds_toArray, List.set_cons_zero, List.set_cons_succ, List.nil_append, List.cons_append]
    rotate_left 1
    · obtain rfl : u4 = .int .i64 (t : Int) := hK (4, u4) (by simp) (by kernel_rfl)
      go_wp2
      exact ⟨_, rfl, rfl, Keeps.refl _ _⟩
    refine ⟨_, rfl, fun w2 hk2 hK => ?_, fun u6 => ?_⟩
    rotate_left 1
    simp only [dstOf, Act.put, List.getElem?_toArray, List.getElem?_cons_succ, List.getElem?_cons_zero, Option.bind_some, List.setIfInBounds_toArray, List.set_cons_zero, List.set_cons_succ, List.nil_append, List.cons_append]
    rotate_left 1
    · obtain rfl : u5 = .int .u8 (t : Int) := hK (5, u5) (by simp) (by kernel_rfl)
      go_wp2
      exact ⟨_, rfl, (BAt.lit _ _ [X0, Xt] 2 _ (by rw [HX.out, HT.out]; rfl) rfl (by omega)).low, (Keeps.refl _ _).alloc _⟩
    refine ⟨_, rfl, fun w2 hk2 hK => ?_, fun u10 => ?_⟩
    rotate_left 1
    simp only [dstOf, Act.put, List.getElem?_toArray, List.getElem?_cons_succ, List.getElem?_cons_zero, Option.bind_some, List.setIfInBounds_toArray, List.set_cons_zero, List.set_cons_succ, List.nil_append, List.cons_append]
    rotate_left 1
    · have hcc := (hr.keeps (S := fun _ => False) ((Keeps.refl (fun _ => False) w1).drew.trans hk2 (fun _ _ h => h)) (fun h => h)).cell 10
      simp only [p4cells, List.getElem?_toArray, List.getElem?_cons_succ, List.getElem?_cons_zero] at hcc
      go_wp2
      exact ⟨_, rfl, rfl, Keeps.refl _ _⟩
    refine ⟨_, rfl, fun w2 hk2 hK => ?_, fun u11 => ?_⟩
    rotate_left 1
    simp only [dstOf, Act.put, List.getElem?_toArray, List.getElem?_cons_succ, List.getElem?_cons_zero, Option.bind_some, List.setIfInBounds_toArray, List.set_cons_zero, List.set_cons_succ, List.nil_append, List.cons_append]
    rotate_left 1
    · obtain rfl : u10 = .slice da data.length dc := hK (10, u10) (by simp) (by kernel_rfl)
      go_wp2
      exact ⟨_, rfl, rfl, Keeps.refl _ _⟩
    refine ⟨_, rfl, fun w2 hk2 hK => ?_, fun u12 => ?_⟩
    rotate_left 1
    simp only [dstOf, Act.put, List.getElem?_toArray, List.getElem?_cons_succ, List.getElem?_cons_zero, Option.bind_some, List.setIfInBounds_toArray, List.set_cons_zero, List.set_cons_succ, List.nil_append, List.cons_append]
    rotate_left 1
    · obtain rfl : u11 = .int .i64 (data.length : Int) := hK (11, u11) (by simp) (by kernel_rfl)
      go_wp2
      exact ⟨_, rfl, rfl, Keeps.refl _ _⟩
    refine ⟨_, rfl, fun w2 hk2 hK => ?_, fun u13 => ?_⟩
    rotate_left 1
    simp only [dstOf, Act.put, List.getElem?_toArray, List.getElem?_cons_succ, List.getElem?_cons_zero, Option.bind_some, List.setIfInBounds_toArray, List.set_cons_zero, List.set_cons_succ, List.nil_append, List.cons_append]
    rotate_left 1
    · obtain rfl : u12 = .int .i64 (c : Int) := hK (12, u12) (by simp) (by kernel_rfl)
      go_wp2_with (refine (rtwo_any c _ (by have := HC.out; have := HN.out; omega)).mono ?_; rintro e w3 ⟨v3, rfl, ho3, hk3⟩)
      exact ⟨_, rfl, ho3.bat.low, hk3⟩
    refine ⟨_, rfl, fun w2 hk2 hK => ?_, fun u15 => ?_⟩
    rotate_left 1
    simp only [dstOf, Act.put, List.getElem?_toArray, List.getElem?_cons_succ, List.getElem?_cons_zero, Option.bind_some, List.setIfInBounds_toArray, List.set_cons_zero, List.set_cons_succ, List.nil_append, List.cons_append]
    rotate_left 1
    · have hcc := (hr.keeps (S := fun _ => False) ((Keeps.refl (fun _ => False) w1).drew.trans hk2 (fun _ _ h => h)) (fun h => h)).cell 1
      simp only [p4cells, List.getElem?_toArray, List.getElem?_cons_succ, List.getElem?_cons_zero] at hcc
      go_wp2
      exact ⟨_, rfl, rfl, Keeps.refl _ _⟩
    refine ⟨_, rfl, fun w2 hk2 hK => ?_, fun u16 => ?_⟩
    rotate_left 1
    simp only [dstOf, Act.put, List.getElem?_toArray, List.getElem?_cons_succ, List.getElem?_cons_zero, Option.bind_some, List.setIfInBounds_toArray, List.set_cons_zero, List.set_cons_succ, List.nil_append, List.cons_append]
    rotate_left 1
    · obtain rfl : u15 = .int .i64 (i : Int) := hK (15, u15) (by simp) (by kernel_rfl)
      go_wp2_with (refine (rtwo_any i _ hi).mono ?_; rintro e w3 ⟨v3, rfl, ho3, hk3⟩)
      exact ⟨_, rfl, ho3.bat.low, hk3⟩
    refine ⟨_, rfl, fun w2 hk2 hK => ?_, fun u18 => ?_⟩
    rotate_left 1
    simp only [dstOf, Act.put, List.getElem?_toArray, List.getElem?_cons_succ, List.getElem?_cons_zero, Option.bind_some, List.setIfInBounds_toArray, List.set_cons_zero, List.set_cons_succ, List.nil_append, List.cons_append]
    rotate_left 1
    · go_wp2_with (refine (rtwo_any o2 _ (by omega)).mono ?_; rintro e w3 ⟨v3, rfl, ho3, hk3⟩)
      exact ⟨_, rfl, ho3.bat.low, hk3⟩
    refine ⟨_, rfl, fun w2 hk2 hK => ?_, fun u20 => ?_⟩
    rotate_left 1
    simp only [dstOf, Act.put, List.getElem?_toArray, List.getElem?_cons_succ, List.getElem?_cons_zero, Option.bind_some, List.setIfInBounds_toArray, List.set_cons_zero, List.set_cons_succ, List.nil_append, List.cons_append]
    rotate_left 1
    · have hcc := (hr.keeps (S := fun _ => False) ((Keeps.refl (fun _ => False) w1).drew.trans hk2 (fun _ _ h => h)) (fun h => h)).cell 2
      simp only [p4cells, List.getElem?_toArray, List.getElem?_cons_succ, List.getElem?_cons_zero] at hcc
      go_wp2
      exact ⟨_, rfl, rfl, Keeps.refl _ _⟩
    refine ⟨_, rfl, fun w2 hk2 hK => ?_, fun u21 => ?_⟩
    rotate_left 1
    simp only [dstOf, Act.put, List.getElem?_toArray, List.getElem?_cons_succ, List.getElem?_cons_zero, Option.bind_some, List.setIfInBounds_toArray, List.set_cons_zero, List.set_cons_succ, List.nil_append, List.cons_append]
    rotate_left 1
    · obtain rfl : u20 = .int .i64 (tt : Int) := hK (20, u20) (by simp) (by kernel_rfl)
      go_wp2
      exact ⟨_, rfl, rfl, Keeps.refl _ _⟩
    refine ⟨_, rfl, fun w2 hk2 hK => ?_, fun u23 => ?_⟩
    rotate_left 1
    simp only [dstOf, Act.put, List.getElem?_toArray, List.getElem?_cons_succ, List.getElem?_cons_zero, Option.bind_some, List.setIfInBounds_toArray, List.set_cons_zero, List.set_cons_succ, List.nil_append, List.cons_append]
    rotate_left 1
    · have hcc := (hr.keeps (S := fun _ => False) ((Keeps.refl (fun _ => False) w1).drew.trans hk2 (fun _ _ h => h)) (fun h => h)).cell 3
      simp only [p4cells, List.getElem?_toArray, List.getElem?_cons_succ, List.getElem?_cons_zero] at hcc
      go_wp2
      exact ⟨_, rfl, rfl, Keeps.refl _ _⟩
    refine ⟨_, rfl, fun w2 hk2 hK => ?_, fun u24 => ?_⟩
    rotate_left 1
    simp only [dstOf, Act.put, List.getElem?_toArray, List.getElem?_cons_succ, List.getElem?_cons_zero, Option.bind_some, List.setIfInBounds_toArray, List.set_cons_zero, List.set_cons_succ, List.nil_append, List.cons_append]
    rotate_left 1
    · obtain rfl : u23 = .int .i64 (pr : Int) := hK (23, u23) (by simp) (by kernel_rfl)
      go_wp2
      exact ⟨_, rfl, rfl, Keeps.refl _ _⟩
    refine ⟨_, rfl, fun w2 hk2 hK => ?_, fun u25 => ?_⟩
    rotate_left 1
    simp only [dstOf, Act.put, List.getElem?_toArray, List.getElem?_cons_succ, List.getElem?_cons_zero, Option.bind_some, List.setIfInBounds_toArray, List.set_cons_zero, List.set_cons_succ, List.nil_append, List.cons_append]
    rotate_left 1
    · obtain rfl : u21 = .int .u8 (tt : Int) := hK (21, u21) (by simp) (by kernel_rfl)
      obtain rfl : u24 = .int .u8 (pr : Int) := hK (24, u24) (by simp) (by kernel_rfl)
      go_wp2
      exact ⟨_, rfl, (BAt.lit _ _ [Xl, Xp] 2 _ (by rw [HTT.out, HPR.out]; rfl) rfl (by omega)).low, (Keeps.refl _ _).alloc _⟩
    refine ⟨_, rfl, fun w2 hk2 hK => ?_, fun u26 => ?_⟩
    rotate_left 1
    simp only [dstOf, Act.put, List.getElem?_toArray, List.getElem?_cons_succ, List.getElem?_cons_zero, Option.bind_some, List.setIfInBounds_toArray, List.set_cons_zero, List.set_cons_succ, List.nil_append, List.cons_append]
    rotate_left 1
    · have k6 : BRd w2 u6 [X0, Xt] := hK (6, u6) (by simp) (by kernel_rfl)
      have k13 : BRd w2 u13 (b2 c) := hK (13, u13) (by simp) (by kernel_rfl)
      have k16 : BRd w2 u16 (b2 i) := hK (16, u16) (by simp) (by kernel_rfl)
      have k18 : BRd w2 u18 (b2 o2) := hK (18, u18) (by simp) (by kernel_rfl)
      have k25 : BRd w2 u25 [Xl, Xp] := hK (25, u25) (by simp) (by kernel_rfl)
      obtain ⟨s6, z6, rfl, -, -⟩ := BAt.slice k6
      obtain ⟨s13, z13, rfl, -, -⟩ := BAt.slice k13
      obtain ⟨s16, z16, rfl, -, -⟩ := BAt.slice k16
      obtain ⟨s18, z18, rfl, -, -⟩ := BAt.slice k18
      obtain ⟨s25, z25, rfl, -, -⟩ := BAt.slice k25
      go_wp2
      exact ⟨_, rfl, (BBAt.lits (q := (· < w2.heap.size)) _ [_, _, _, _, _] [[X0, Xt], b2 c, b2 i, b2 o2, [Xl, Xp]] 5 rfl rfl (by omega) ⟨k6, k13, k16, k18, k25, trivial⟩).low, (Keeps.refl _ _).alloc _⟩
    refine ⟨_, rfl, fun w2 hk2 hK => ?_, fun u27 => ?_⟩
    rotate_left 1
    simp only [dstOf, Act.put, List.getElem?_toArray, List.getElem?_cons_succ, List.getElem?_cons_zero, Option.bind_some, List.setIfInBounds_toArray, List.set_cons_zero, List.set_cons_succ, List.nil_append, List.cons_append]
    rotate_left 1
    · have k26 : BBRd w2 u26 [[X0, Xt], b2 c, b2 i, b2 o2, [Xl, Xp]] := hK (26, u26) (by simp) (by kernel_rfl)
      go_wp2_with (refine (both_any _ _ _ k26 (by simp [b2])).mono ?_; rintro e w3 ⟨v3, rfl, ho3, hk3⟩)
      have e1 : [[X0, Xt], b2 c, b2 i, b2 o2, [Xl, Xp]].flatten = hd10 t i tt pr o false true opt data := by
        unfold hd10 fr10
        rw [HN.out, HC.out, HH.out, HM.out, HX0.out, HXt.out, HXl.out, HXp.out]
        rfl
      rw [e1] at ho3
      exact ⟨_, rfl, ho3.bat.low, hk3⟩
    refine ⟨_, rfl, fun w2 hk2 hK => ?_, fun u28 => ?_⟩
    rotate_left 1
    simp only [dstOf, Act.put, List.getElem?_toArray, List.getElem?_cons_succ, List.getElem?_cons_zero, Option.bind_some, List.setIfInBounds_toArray, List.set_cons_zero, List.set_cons_succ, List.nil_append, List.cons_append]
    rotate_left 1
    · have k27 : BRd w2 u27 (hd10 t i tt pr o false true opt data) := hK (27, u27) (by simp) (by kernel_rfl)
      go_wp2
      exact ⟨_, rfl, k27, Keeps.refl _ _⟩
    intro w2 hk2 hK
    have k28 : BRd w2 u28 (hd10 t i tt pr o false true opt data) := hK (28, u28) (by simp)
    have hr2 := hr.keeps (S := fun _ => False) ((Keeps.refl (fun _ => False) w1).drew.trans hk2 (fun _ _ h => h)) (fun h => h)
    have hkB := hkA.trans hk2 (fun _ _ h => h)
    clear hK hC hkA hk2 hk0 hw1 hr q9 q1 q2 q3 q4 q5 q6 q7 HX HT HTT HPR e4h hc' eh
    obtain ⟨s28, z28, rfl, hz28, hzm28⟩ := BAt.slice k28
    have c7 : w2.cell? ⟨w.heap.size, 7, none⟩ = some (.string ⟨src.toArray⟩) := hr2.cell 7
    have c8 : w2.cell? ⟨w.heap.size, 8, none⟩ = some (.string ⟨dst.toArray⟩) := hr2.cell 8
    have c9 : w2.cell? ⟨w.heap.size, 9, none⟩ = some (.string ⟨opt.toArray⟩) := hr2.cell 9
    have e1 := ba_append src dst
    obtain ⟨sd, hsd⟩ : ∃ sd, src ++ dst = sd := ⟨_, rfl⟩
    rw [hsd] at e1
    have e2 := ba_append sd opt
    obtain ⟨bk, hbk⟩ : ∃ bk, sd ++ opt = bk := ⟨_, rfl⟩
    rw [hbk] at e2
    have hbkl : bk.length ≤ 100 := by rw [← hbk, ← hsd, List.length_append, List.length_append]; omega
    have hsl : sd.length = 8 := by rw [← hsd, List.length_append]; omega
    have HBK := Lib.hid hbk
    have HSD := Lib.hid hsd
    have hcv := conv_text w2 bk
    have hB0 := BAt.ofText w2 bk (by omega)
    have hkC := hkB.trans (Keeps.bytesWorld w2 5 ⟨bk.toArray⟩) (fun _ _ h => h)
    have hr3 := hr2.keeps (Keeps.bytesWorld w2 5 ⟨bk.toArray⟩) (fun h => h)
    have k29 := BRd.keeps k28 (Keeps.bytesWorld w2 5 ⟨bk.toArray⟩)
    obtain ⟨gc, hgc⟩ : ∃ gc, grownCap w2 bk.length 0 5 = gc := ⟨_, rfl⟩
    rw [hgc] at hcv hB0
    generalize hw3 : Lib.bytesWorld w2 5 ⟨bk.toArray⟩ = w3 at hcv hB0 hkC hr3 k29
    clear hbk hsd hgc hw3
    have HCV := Lib.hid hcv
    have hs0 : (src.length : Int) = 4 := by omega
    obtain ⟨HX10, hHX⟩ : ∃ L, hd10 t i tt pr o false true opt data = L := ⟨_, rfl⟩
    rw [hHX] at k29 hz28
    have hHl : HX10.length = 10 := by rw [← hHX]; rfl
    have HHl := Lib.hid hHl
    have HHX := Lib.hid hHX
    have hZ := BAt.lit w3 #[.int .u8 0, .int .u8 0] [0, 0] 2 5 rfl rfl (by omega)
    have hkZ := (Keeps.refl (fun _ => False) w3).alloc (.cells #[.int .u8 0, .int .u8 0] 5)
    have hrows := BBAt.lits (T := 22) (w := w3.alloc (.cells #[.int .u8 0, .int .u8 0] 5)) (q := (· < (w3.alloc (.cells #[.int .u8 0, .int .u8 0] 5)).heap.size)) #[.slice s28 HX10.length z28, .slice (some ⟨w3.heap.size, 0, none⟩) 2 2, .slice (some ⟨w2.heap.size, 0, none⟩) bk.length gc] _ [HX10, [0, 0], bk] 3 rfl rfl (by omega)
      ⟨BRd.keeps k29 hkZ, hZ.low, (BAt.keeps hB0 hkZ (fun _ _ h => h)).low, trivial⟩
    rw [size_alloc] at hrows
    have hflat : [HX10, [0, 0], bk].flatten = hdN t i tt pr o false true src dst opt data := by
      rw [← HBK.out, ← HSD.out, ← hHX]
      unfold hdN
      simp
    have hfl : (hdN t i tt pr o false true src dst opt data).length = 12 + bk.length := by rw [← hflat]; simp [hHl]; omega
    obtain ⟨CC, hCC⟩ : ∃ CC, 65535 - sum16 (hdN t i tt pr o false true src dst opt data) = CC := ⟨_, rfl⟩
    have hboth := both_any _ _ _ hrows.low (by rw [hflat, hfl]; omega)
    rw [hflat] at hboth
    have HB := Lib.hid hboth
    have HCC := Lib.hid hCC
    have hkE := (hkC.alloc (.cells #[.int .u8 0, .int .u8 0] 5)).alloc (.cells #[.slice s28 HX10.length z28, .slice (some ⟨w3.heap.size, 0, none⟩) 2 2, .slice (some ⟨w2.heap.size, 0, none⟩) bk.length gc] 22)
    have hkR := ((Keeps.refl (fun _ => False) w3).alloc (.cells #[.int .u8 0, .int .u8 0] 5)).alloc (.cells #[.slice s28 HX10.length z28, .slice (some ⟨w3.heap.size, 0, none⟩) 2 2, .slice (some ⟨w2.heap.size, 0, none⟩) bk.length gc] 22)
    have HFL := Lib.hid hfl
    clear hboth hflat hHX hCC hrows hZ hkZ hfl hHl
    go_wp2_with fail
    rw [HHX.out]
    refine HB.out.mono ?_
    rintro e w4 ⟨v4, rfl, ho4, hk4⟩
    have hkF := hkE.trans hk4 (fun _ _ h => h)
    have hr4 := (hr3.keeps hkR (fun h => h)).keeps hk4 (fun h => h)
    have k30 := BRd.keeps (BRd.keeps k29 hkR) hk4
    have hB1 := (BAt.keeps (BAt.keeps hB0 hkR (fun _ _ h => h)) hk4 (fun _ _ h => h)).low
    have hchk := rchk_any v4 _ w4 ho4.bat.low (by rw [HFL.out]; omega)
    rw [HCC.out] at hchk
    have HCHK := Lib.hid hchk
    clear hchk hk4 ho4 hkE hr3 k29 hB0 hkC hkR HB hkB hr2 k28 c7 c8 c9 e1 e2 hcv
    go_wp2_with (go_at_call 34; refine HCHK.out.mono ?_; rintro e w5 ⟨rfl, rfl⟩)
    refine region_T [] (fun _ => True) (by kernel_rfl) ?_
    have hC : (fun _ : World => True) w4.drew := trivial
    have hkA := hkF.drew
    refine anyT_take0 (i := 0) (v := ?_) rfl (by kernel_rfl) (by kernel_rfl) (by kernel_rfl) (by kernel_rfl) (by kernel_rfl) (fun _ _ _ h => h) hC (.inl ⟨by rfl, fun _ _ => ?_⟩) ?_
    rotate_left 1
    · go_simp
      try with_reducible rfl
    simp only [Act.put, List.getElem_toArray, List.getElem_cons_succ, List.getElem_cons_zero, List.setIfInBounds_toArray, List.set_cons_zero, List.set_cons_succ]
    refine anyT_take0 (i := 1) (v := ?_) rfl (by kernel_rfl) (by kernel_rfl) (by kernel_rfl) (by kernel_rfl) (by kernel_rfl) (fun _ _ _ h => h) hC (.inl ⟨by rfl, fun _ _ => ?_⟩) ?_
    rotate_left 1
    · go_simp
      try with_reducible rfl
    simp only [Act.put, List.getElem_toArray, List.getElem_cons_succ, List.getElem_cons_zero, List.setIfInBounds_toArray, List.set_cons_zero, List.set_cons_succ]
    refine anyT_take0 (i := 3) (v := ?_) rfl (by kernel_rfl) (by kernel_rfl) (by kernel_rfl) (by kernel_rfl) (by kernel_rfl) (fun _ _ _ h => h) hC (.inl ⟨by rfl, fun _ _ => ?_⟩) ?_
    rotate_left 1
    · go_simp
      try with_reducible rfl
    simp only [Act.put, List.getElem_toArray, List.getElem_cons_succ, List.getElem_cons_zero, List.setIfInBounds_toArray, List.set_cons_zero, List.set_cons_succ]
    refine anyT_take0 (i := 4) (v := ?_) rfl (by kernel_rfl) (by kernel_rfl) (by kernel_rfl) (by kernel_rfl) (by kernel_rfl) (fun _ _ _ h => h) hC (.inl ⟨by rfl, fun _ _ => ?_⟩) ?_
    rotate_left 1
    · go_simp
      try with_reducible rfl
    simp only [Act.put, List.getElem_toArray, List.getElem_cons_succ, List.getElem_cons_zero, List.setIfInBounds_toArray, List.set_cons_zero, List.set_cons_succ]
    refine anyT_par [(2, rBytes (b2 CC)), (5, rEq (.slice da data.length dc)), (6, rRows [HX10, b2 CC, bk, data]), (7, rBytes (bytesN t i tt pr o false true src dst opt data)), (8, rBytes (bytesN t i tt pr o false true src dst opt data))] _ [2, 5, 6, 7, 8] (fun _ => trivial) (by kernel_rfl) rfl (by kernel_rfl) rfl ?_
    refine ⟨_, rfl, fun w2 hk2 hK => ?_, fun u2 => ?_⟩
    rotate_left 1
    simp only [dstOf, Act.put, List.getElem?_toArray, List.getElem?_cons_succ, List.getElem?_cons_zero, Option.bind_some, List.setIfInBounds_toArray, List.set_cons_zero, List.set_cons_succ, List.nil_append, List.cons_append]
    rotate_left 1
    · go_wp2_with (refine (rtwo_any CC _ (by have := HCC.out; omega)).mono ?_; rintro e w3 ⟨v3, rfl, ho3, hk3⟩)
      exact ⟨_, rfl, ho3.bat.low, hk3⟩
    refine ⟨_, rfl, fun w2 hk2 hK => ?_, fun u5 => ?_⟩
    rotate_left 1
    simp only [dstOf, Act.put, List.getElem?_toArray, List.getElem?_cons_succ, List.getElem?_cons_zero, Option.bind_some, List.setIfInBounds_toArray, List.set_cons_zero, List.set_cons_succ, List.nil_append, List.cons_append]
    rotate_left 1
    · have hcc := (hr4.keeps (S := fun _ => False) ((Keeps.refl (fun _ => False) w4).drew.trans hk2 (fun _ _ h => h)) (fun h => h)).cell 10
      simp only [p4cells, List.getElem?_toArray, List.getElem?_cons_succ, List.getElem?_cons_zero] at hcc
      go_wp2
      exact ⟨_, rfl, rfl, Keeps.refl _ _⟩
    refine ⟨_, rfl, fun w2 hk2 hK => ?_, fun u6 => ?_⟩
    rotate_left 1
    simp only [dstOf, Act.put, List.getElem?_toArray, List.getElem?_cons_succ, List.getElem?_cons_zero, Option.bind_some, List.setIfInBounds_toArray, List.set_cons_zero, List.set_cons_succ, List.nil_append, List.cons_append]
    rotate_left 1
    · have k6 : BRd w2 u2 (b2 CC) := hK (2, u2) (by simp) (by kernel_rfl)
      obtain rfl : u5 = .slice da data.length dc := hK (5, u5) (by simp) (by kernel_rfl)
      have hkX := (Keeps.refl (fun _ => False) w4).drew.trans hk2 (fun _ _ h => h)
      have k7 := BRd.keeps k30 hkX
      have k8 := BRd.keeps (l := bk) hB1 hkX
      have k9 := hd.keeps (hkF.drew.trans hk2 (fun _ _ h => h))
      obtain ⟨s6, z6, rfl, -, -⟩ := BAt.slice k6
      go_wp2
      exact ⟨_, rfl, (BBAt.lits (q := (· < w2.heap.size)) _ [_, _, _, _] [HX10, b2 CC, bk, data] 4 rfl rfl (by omega) ⟨k7, k6, k8, k9, trivial⟩).low, (Keeps.refl _ _).alloc _⟩
    refine ⟨_, rfl, fun w2 hk2 hK => ?_, fun u7 => ?_⟩
    rotate_left 1
    simp only [dstOf, Act.put, List.getElem?_toArray, List.getElem?_cons_succ, List.getElem?_cons_zero, Option.bind_some, List.setIfInBounds_toArray, List.set_cons_zero, List.set_cons_succ, List.nil_append, List.cons_append]
    rotate_left 1
    · have k26 : BBRd w2 u6 [HX10, b2 CC, bk, data] := hK (6, u6) (by simp) (by kernel_rfl)
      go_wp2_with (refine (both_any _ _ _ k26 (by have := HHl.out; simp [b2]; omega)).mono ?_; rintro e w3 ⟨v3, rfl, ho3, hk3⟩)
      have e1 : [HX10, b2 CC, bk, data].flatten = bytesN t i tt pr o false true src dst opt data := by
        unfold bytesN
        rw [HCC.out, HHX.out, ← HBK.out, ← HSD.out]
        simp
      rw [e1] at ho3
      exact ⟨_, rfl, ho3.bat.low, hk3⟩
    refine ⟨_, rfl, fun w2 hk2 hK => ?_, fun u8 => ?_⟩
    rotate_left 1
    simp only [dstOf, Act.put, List.getElem?_toArray, List.getElem?_cons_succ, List.getElem?_cons_zero, Option.bind_some, List.setIfInBounds_toArray, List.set_cons_zero, List.set_cons_succ, List.nil_append, List.cons_append]
    rotate_left 1
    · have k27 : BRd w2 u7 (bytesN t i tt pr o false true src dst opt data) := hK (7, u7) (by simp) (by kernel_rfl)
      go_wp2
      exact ⟨_, rfl, k27, Keeps.refl _ _⟩
    intro w2 hk2 hK
    have k28 : BRd w2 u8 (bytesN t i tt pr o false true src dst opt data) := hK (8, u8) (by simp)
    go_wp2
    go_ret
    exact ⟨_, rfl, k28, hkA.trans hk2 (fun _ _ h => h)⟩
  · have hM : offN true false o = o1 := H1.out
    have HM := Lib.hid hM
    have hMle : (o1 : Int) ≤ 65535 := by omega
    go_wp2
    clear c9 c6 c4 c5 e8 r1 r2 r3 b1
    generalize hw1 : w.alloc _ = w1 at hr hk0 ⊢
    refine region_T [] (fun _ => True) (by kernel_rfl) ?_
    have hC : (fun _ : World => True) w1.drew := trivial
    have hkA := hk0.drew
    refine anyT_take0 (i := 0) (v := ?_) rfl (by kernel_rfl) (by kernel_rfl) (by kernel_rfl) (by kernel_rfl) (by kernel_rfl) (fun _ _ _ h => h) hC (.inl ⟨by rfl, fun _ _ => ?_⟩) ?_
    rotate_left 1
    · go_simp
      try with_reducible rfl
    simp only [Act.put, List.getElem_toArray, List.getElem_cons_succ, List.getElem_cons_zero, List.setIfInBounds_toArray, List.set_cons_zero, List.set_cons_succ]
    refine anyT_take0 (i := 1) (v := ?_) rfl (by kernel_rfl) (by kernel_rfl) (by kernel_rfl) (by kernel_rfl) (by kernel_rfl) (fun _ _ _ h => h) hC (.inl ⟨by rfl, fun _ _ => ?_⟩) ?_
    rotate_left 1
    · go_simp
      try with_reducible rfl
    simp only [Act.put, List.getElem_toArray, List.getElem_cons_succ, List.getElem_cons_zero, List.setIfInBounds_toArray, List.set_cons_zero, List.set_cons_succ]
    refine anyT_take0 (i := 2) (v := ?_) rfl (by kernel_rfl) (by kernel_rfl) (by kernel_rfl) (by kernel_rfl) (by kernel_rfl) (fun _ _ _ h => h) hC (.inl ⟨by rfl, fun _ _ => ?_⟩) ?_
    rotate_left 1
    · go_simp
      try with_reducible rfl
    simp only [Act.put, List.getElem_toArray, List.getElem_cons_succ, List.getElem_cons_zero, List.setIfInBounds_toArray, List.set_cons_zero, List.set_cons_succ]
    refine anyT_take0 (i := 3) (v := ?_) rfl (by kernel_rfl) (by kernel_rfl) (by kernel_rfl) (by kernel_rfl) (by kernel_rfl) (fun _ _ _ h => h) hC (.inl ⟨by rfl, fun _ _ => ?_⟩) ?_
    rotate_left 1
    · go_simp
      try with_reducible rfl
    simp only [Act.put, List.getElem_toArray, List.getElem_cons_succ, List.getElem_cons_zero, List.setIfInBounds_toArray, List.set_cons_zero, List.set_cons_succ]
    refine anyT_take0 (i := 7) (v := ?_) rfl (by kernel_rfl) (by kernel_rfl) (by kernel_rfl) (by kernel_rfl) (by kernel_rfl) (fun _ _ _ h => h) hC (.inl ⟨by rfl, fun _ _ => ?_⟩) ?_
    rotate_left 1
    · go_simp
      try with_reducible rfl
    simp only [Act.put, List.getElem_toArray, List.getElem_cons_succ, List.getElem_cons_zero, List.setIfInBounds_toArray, List.set_cons_zero, List.set_cons_succ]
    refine anyT_take0 (i := 8) (v := ?_) rfl (by kernel_rfl) (by kernel_rfl) (by kernel_rfl) (by kernel_rfl) (by kernel_rfl) (fun _ _ _ h => h) hC (.inl ⟨by rfl, fun _ _ => ?_⟩) ?_
    rotate_left 1
    · go_simp
      try with_reducible rfl
    simp only [Act.put, List.getElem_toArray, List.getElem_cons_succ, List.getElem_cons_zero, List.setIfInBounds_toArray, List.set_cons_zero, List.set_cons_succ]
    refine anyT_take0 (i := 9) (v := ?_) rfl (by kernel_rfl) (by kernel_rfl) (by kernel_rfl) (by kernel_rfl) (by kernel_rfl) (fun _ _ _ h => h) hC (.inl ⟨by rfl, fun _ _ => ?_⟩) ?_
    rotate_left 1
    · go_simp
      try with_reducible rfl
    simp only [Act.put, List.getElem_toArray, List.getElem_cons_succ, List.getElem_cons_zero, List.setIfInBounds_toArray, List.set_cons_zero, List.set_cons_succ]
    refine anyT_take0 (i := 14) (v := ?_) rfl (by kernel_rfl) (by kernel_rfl) (by kernel_rfl) (by kernel_rfl) (by kernel_rfl) (fun _ _ _ h => h) hC (.inl ⟨by rfl, fun _ _ => ?_⟩) ?_
    rotate_left 1
    · go_simp
      try with_reducible rfl
    simp only [Act.put, List.getElem_toArray, List.getElem_cons_succ, List.getElem_cons_zero, List.setIfInBounds_toArray, List.set_cons_zero, List.set_cons_succ]
    refine anyT_take0 (i := 17) (v := ?_) rfl (by kernel_rfl) (by kernel_rfl) (by kernel_rfl) (by kernel_rfl) (by kernel_rfl) (fun _ _ _ h => h) hC (.inl ⟨by rfl, fun _ _ => ?_⟩) ?_
    rotate_left 1
    · go_simp
      try with_reducible rfl
    simp only [Act.put, List.getElem_toArray, List.getElem_cons_succ, List.getElem_cons_zero, List.setIfInBounds_toArray, List.set_cons_zero, List.set_cons_succ]
    refine anyT_take0 (i := 19) (v := ?_) rfl (by kernel_rfl) (by kernel_rfl) (by kernel_rfl) (by kernel_rfl) (by kernel_rfl) (fun _ _ _ h => h) hC (.inl ⟨by rfl, fun _ _ => ?_⟩) ?_
    rotate_left 1
    · go_simp
      try with_reducible rfl
    simp only [Act.put, List.getElem_toArray, List.getElem_cons_succ, List.getElem_cons_zero, List.setIfInBounds_toArray, List.set_cons_zero, List.set_cons_succ]
    refine anyT_take0 (i := 22) (v := ?_) rfl (by kernel_rfl) (by kernel_rfl) (by kernel_rfl) (by kernel_rfl) (by kernel_rfl) (fun _ _ _ h => h) hC (.inl ⟨by rfl, fun _ _ => ?_⟩) ?_
    rotate_left 1
    · go_simp
      try with_reducible rfl
    simp only [Act.put, List.getElem_toArray, List.getElem_cons_succ, List.getElem_cons_zero, List.setIfInBounds_toArray, List.set_cons_zero, List.set_cons_succ]
    refine anyT_par [(4, rEq (.int .i64 (t : Int))), (5, rEq (.int .u8 (t : Int))), (6, rBytes [X0, Xt]), (10, rEq (.slice da data.length dc)), (11, rEq (.int .i64 (data.length : Int))), (12, rEq (.int .i64 (c : Int))), (13, rBytes (b2 c)), (15, rEq (.int .i64 (i : Int))), (16, rBytes (b2 i)), (18, rBytes (b2 o1)),
      (20, rEq (.int .i64 (tt : Int))), (21, rEq (.int .u8 (tt : Int))), (23, rEq (.int .i64 (pr : Int))), (24, rEq (.int .u8 (pr : Int))), (25, rBytes [Xl, Xp]), (26, rRows [[X0, Xt], b2 c, b2 i, b2 o1, [Xl, Xp]]), (27, rBytes (hd10 t i tt pr o true false opt data)), (28, rBytes (hd10 t i tt pr o true false opt data))] _ [4, 5, 6, 10, 11, 12, 13, 15, 16, 18, 20, 21, 23, 24, 25, 26, 27, 28] (fun _ => trivial) (by kernel_rfl) rfl (by kernel_rfl) rfl ?_
    refine ⟨_, rfl, fun w2 hk2 hK => ?_, fun u4 => ?_⟩
    rotate_left 1
    simp only [dstOf, Act.put, List.getElem?_toArray, List.getElem?_cons_succ, List.getElem?_cons_zero, Option.bind_some, List.setIfInBounds_toArray, List.set_cons_zero, List.set_cons_succ, List.nil_append, List.cons_append]
    rotate_left 1
    · have hcc := (hr.keeps (S := fun _ => False) ((Keeps.refl (fun _ => False) w1).drew.trans hk2 (fun _ _ h => h)) (fun h => h)).cell 0
      simp only [p4cells, List.getElem?_toArray, List.getElem?_cons_succ, List.getElem?_cons_zero] at hcc
      go_wp2
      exact ⟨_, rfl, rfl, Keeps.refl _ _⟩
    refine ⟨_, rfl, fun w2 hk2 hK => ?_, fun u5 => ?_⟩
    rotate_left 1
    simp only [dstOf, Act.put, List.getElem?_toArray, List.getElem?_cons_succ, List.getElem?_cons_zero, Option.bind_some, List.setIfInBounds_toArray, List.set_cons_zero, List.set_cons_succ, List.nil_append, List.cons_append]
    rotate_left 1
    · obtain rfl : u4 = .int .i64 (t : Int) := hK (4, u4) (by simp) (by kernel_rfl)
      go_wp2
      exact ⟨_, rfl, rfl, Keeps.refl _ _⟩
    refine ⟨_, rfl, fun w2 hk2 hK => ?_, fun u6 => ?_⟩
    rotate_left 1
    simp only [dstOf, Act.put, List.getElem?_toArray, List.getElem?_cons_succ, List.getElem?_cons_zero, Option.bind_some, List.setIfInBounds_toArray, List.set_cons_zero, List.set_cons_succ, List.nil_append, List.cons_append]
    rotate_left 1
    · obtain rfl : u5 = .int .u8 (t : Int) := hK (5, u5) (by simp) (by kernel_rfl)
      go_wp2
      exact ⟨_, rfl, (BAt.lit _ _ [X0, Xt] 2 _ (by rw [HX.out, HT.out]; rfl) rfl (by omega)).low, (Keeps.refl _ _).alloc _⟩
    refine ⟨_, rfl, fun w2 hk2 hK => ?_, fun u10 => ?_⟩
    rotate_left 1
    simp only [dstOf, Act.put, List.getElem?_toArray, List.getElem?_cons_succ, List.getElem?_cons_zero, Option.bind_some, List.setIfInBounds_toArray, List.set_cons_zero, List.set_cons_succ, List.nil_append, List.cons_append]
    rotate_left 1
    · have hcc := (hr.keeps (S := fun _ => False) ((Keeps.refl (fun _ => False) w1).drew.trans hk2 (fun _ _ h => h)) (fun h => h)).cell 10
      simp only [p4cells, List.getElem?_toArray, List.getElem?_cons_succ, List.getElem?_cons_zero] at hcc
      go_wp2
      exact ⟨_, rfl, rfl, Keeps.refl _ _⟩
    refine ⟨_, rfl, fun w2 hk2 hK => ?_, fun u11 => ?_⟩
    rotate_left 1
    simp only [dstOf, Act.put, List.getElem?_toArray, List.getElem?_cons_succ, List.getElem?_cons_zero, Option.bind_some, List.setIfInBounds_toArray, List.set_cons_zero, List.set_cons_succ, List.nil_append, List.cons_append]
    rotate_left 1
    · obtain rfl : u10 = .slice da data.length dc := hK (10, u10) (by simp) (by kernel_rfl)
      go_wp2
      exact ⟨_, rfl, rfl, Keeps.refl _ _⟩
    refine ⟨_, rfl, fun w2 hk2 hK => ?_, fun u12 => ?_⟩
    rotate_left 1
    simp only [dstOf, Act.put, List.getElem?_toArray, List.getElem?_cons_succ, List.getElem?_cons_zero, Option.bind_some, List.setIfInBounds_toArray, List.set_cons_zero, List.set_cons_succ, List.nil_append, List.cons_append]
    rotate_left 1
    · obtain rfl : u11 = .int .i64 (data.length : Int) := hK (11, u11) (by simp) (by kernel_rfl)
      go_wp2
      exact ⟨_, rfl, rfl, Keeps.refl _ _⟩
    refine ⟨_, rfl, fun w2 hk2 hK => ?_, fun u13 => ?_⟩
    rotate_left 1
    simp only [dstOf, Act.put, List.getElem?_toArray, List.getElem?_cons_succ, List.getElem?_cons_zero, Option.bind_some, List.setIfInBounds_toArray, List.set_cons_zero, List.set_cons_succ, List.nil_append, List.cons_append]
    rotate_left 1
    · obtain rfl : u12 = .int .i64 (c : Int) := hK (12, u12) (by simp) (by kernel_rfl)
      go_wp2_with (refine (rtwo_any c _ (by have := HC.out; have := HN.out; omega)).mono ?_; rintro e w3 ⟨v3, rfl, ho3, hk3⟩)
      exact ⟨_, rfl, ho3.bat.low, hk3⟩
    refine ⟨_, rfl, fun w2 hk2 hK => ?_, fun u15 => ?_⟩
    rotate_left 1
    simp only [dstOf, Act.put, List.getElem?_toArray, List.getElem?_cons_succ, List.getElem?_cons_zero, Option.bind_some, List.setIfInBounds_toArray, List.set_cons_zero, List.set_cons_succ, List.nil_append, List.cons_append]
    rotate_left 1
    · have hcc := (hr.keeps (S := fun _ => False) ((Keeps.refl (fun _ => False) w1).drew.trans hk2 (fun _ _ h => h)) (fun h => h)).cell 1
      simp only [p4cells, List.getElem?_toArray, List.getElem?_cons_succ, List.getElem?_cons_zero] at hcc
      go_wp2
      exact ⟨_, rfl, rfl, Keeps.refl _ _⟩
    refine ⟨_, rfl, fun w2 hk2 hK => ?_, fun u16 => ?_⟩
    rotate_left 1
    simp only [dstOf, Act.put, List.getElem?_toArray, List.getElem?_cons_succ, List.getElem?_cons_zero, Option.bind_some, List.setIfInBounds_toArray, List.set_cons_zero, List.set_cons_succ, List.nil_append, List.cons_append]
    rotate_left 1
    · obtain rfl : u15 = .int .i64 (i : Int) := hK (15, u15) (by simp) (by kernel_rfl)
      go_wp2_with (refine (rtwo_any i _ hi).mono ?_; rintro e w3 ⟨v3, rfl, ho3, hk3⟩)
      exact ⟨_, rfl, ho3.bat.low, hk3⟩
    refine ⟨_, rfl, fun w2 hk2 hK => ?_, fun u18 => ?_⟩
    rotate_left 1
    simp only [dstOf, Act.put, List.getElem?_toArray, List.getElem?_cons_succ, List.getElem?_cons_zero, Option.bind_some, List.setIfInBounds_toArray, List.set_cons_zero, List.set_cons_succ, List.nil_append, List.cons_append]
    rotate_left 1
    · go_wp2_with (refine (rtwo_any o1 _ (by omega)).mono ?_; rintro e w3 ⟨v3, rfl, ho3, hk3⟩)
      exact ⟨_, rfl, ho3.bat.low, hk3⟩
    refine ⟨_, rfl, fun w2 hk2 hK => ?_, fun u20 => ?_⟩
    rotate_left 1
    simp only [dstOf, Act.put, List.getElem?_toArray, List.getElem?_cons_succ, List.getElem?_cons_zero, Option.bind_some, List.setIfInBounds_toArray, List.set_cons_zero, List.set_cons_succ, List.nil_append, List.cons_append]
    rotate_left 1
    · have hcc := (hr.keeps (S := fun _ => False) ((Keeps.refl (fun _ => False) w1).drew.trans hk2 (fun _ _ h => h)) (fun h => h)).cell 2
      simp only [p4cells, List.getElem?_toArray, List.getElem?_cons_succ, List.getElem?_cons_zero] at hcc
      go_wp2
      exact ⟨_, rfl, rfl, Keeps.refl _ _⟩
    refine ⟨_, rfl, fun w2 hk2 hK => ?_, fun u21 => ?_⟩
    rotate_left 1
    simp only [dstOf, Act.put, List.getElem?_toArray, List.getElem?_cons_succ, List.getElem?_cons_zero, Option.bind_some, List.setIfInBounds_toArray, List.set_cons_zero, List.set_cons_succ, List.nil_append, List.cons_append]
    rotate_left 1
    · obtain rfl : u20 = .int .i64 (tt : Int) := hK (20, u20) (by simp) (by kernel_rfl)
      go_wp2
      exact ⟨_, rfl, rfl, Keeps.refl _ _⟩
    refine ⟨_, rfl, fun w2 hk2 hK => ?_, fun u23 => ?_⟩
    rotate_left 1
    simp only [dstOf, Act.put, List.getElem?_toArray, List.getElem?_cons_succ, List.getElem?_cons_zero, Option.bind_some, List.setIfInBounds_toArray, List.set_cons_zero, List.set_cons_succ, List.nil_append, List.cons_append]
    rotate_left 1
    · have hcc := (hr.keeps (S := fun _ => False) ((Keeps.refl (fun _ => False) w1).drew.trans hk2 (fun _ _ h => h)) (fun h => h)).cell 3
      simp only [p4cells, List.getElem?_toArray, List.getElem?_cons_succ, List.getElem?_cons_zero] at hcc
      go_wp2
      exact ⟨_, rfl, rfl, Keeps.refl _ _⟩
    refine ⟨_, rfl, fun w2 hk2 hK => ?_, fun u24 => ?_⟩
    rotate_left 1
    simp only [dstOf, Act.put, List.getElem?_toArray, List.getElem?_cons_succ, List.getElem?_cons_zero, Option.bind_some, List.setIfInBounds_toArray, List.set_cons_zero, List.set_cons_succ, List.nil_append, List.cons_append]
    rotate_left 1
    · obtain rfl : u23 = .int .i64 (pr : Int) := hK (23, u23) (by simp) (by kernel_rfl)
      go_wp2
      exact ⟨_, rfl, rfl, Keeps.refl _ _⟩
    refine ⟨_, rfl, fun w2 hk2 hK => ?_, fun u25 => ?_⟩
    rotate_left 1
    simp only [dstOf, Act.put, List.getElem?_toArray, List.getElem?_cons_succ, List.getElem?_cons_zero, Option.bind_some, List.setIfInBounds_toArray, List.set_cons_zero, List.set_cons_succ, List.nil_append, List.cons_append]
    rotate_left 1
    · obtain rfl : u21 = .int .u8 (tt : Int) := hK (21, u21) (by simp) (by kernel_rfl)
      obtain rfl : u24 = .int .u8 (pr : Int) := hK (24, u24) (by simp) (by kernel_rfl)
      go_wp2
      exact ⟨_, rfl, (BAt.lit _ _ [Xl, Xp] 2 _ (by rw [HTT.out, HPR.out]; rfl) rfl (by omega)).low, (Keeps.refl _ _).alloc _⟩
    refine ⟨_, rfl, fun w2 hk2 hK => ?_, fun u26 => ?_⟩
    rotate_left 1
    simp only [dstOf, Act.put, List.getElem?_toArray, List.getElem?_cons_succ, List.getElem?_cons_zero, Option.bind_some, List.setIfInBounds_toArray, List.set_cons_zero, List.set_cons_succ, List.nil_append, List.cons_append]
    rotate_left 1
    · have k6 : BRd w2 u6 [X0, Xt] := hK (6, u6) (by simp) (by kernel_rfl)
      have k13 : BRd w2 u13 (b2 c) := hK (13, u13) (by simp) (by kernel_rfl)
      have k16 : BRd w2 u16 (b2 i) := hK (16, u16) (by simp) (by kernel_rfl)
      have k18 : BRd w2 u18 (b2 o1) := hK (18, u18) (by simp) (by kernel_rfl)
      have k25 : BRd w2 u25 [Xl, Xp] := hK (25, u25) (by simp) (by kernel_rfl)
      obtain ⟨s6, z6, rfl, -, -⟩ := BAt.slice k6
      obtain ⟨s13, z13, rfl, -, -⟩ := BAt.slice k13
      obtain ⟨s16, z16, rfl, -, -⟩ := BAt.slice k16
      obtain ⟨s18, z18, rfl, -, -⟩ := BAt.slice k18
      obtain ⟨s25, z25, rfl, -, -⟩ := BAt.slice k25
      go_wp2
      exact ⟨_, rfl, (BBAt.lits (q := (· < w2.heap.size)) _ [_, _, _, _, _] [[X0, Xt], b2 c, b2 i, b2 o1, [Xl, Xp]] 5 rfl rfl (by omega) ⟨k6, k13, k16, k18, k25, trivial⟩).low, (Keeps.refl _ _).alloc _⟩
    refine ⟨_, rfl, fun w2 hk2 hK => ?_, fun u27 => ?_⟩
    rotate_left 1
    simp only [dstOf, Act.put, List.getElem?_toArray, List.getElem?_cons_succ, List.getElem?_cons_zero, Option.bind_some, List.setIfInBounds_toArray, List.set_cons_zero, List.set_cons_succ, List.nil_append, List.cons_append]
    rotate_left 1
    · have k26 : BBRd w2 u26 [[X0, Xt], b2 c, b2 i, b2 o1, [Xl, Xp]] := hK (26, u26) (by simp) (by kernel_rfl)
      go_wp2_with (refine (both_any _ _ _ k26 (by simp [b2])).mono ?_; rintro e w3 ⟨v3, rfl, ho3, hk3⟩)
      have e1 : [[X0, Xt], b2 c, b2 i, b2 o1, [Xl, Xp]].flatten = hd10 t i tt pr o true false opt data := by
        unfold hd10 fr10
        rw [HN.out, HC.out, HH.out, HM.out, HX0.out, HXt.out, HXl.out, HXp.out]
        rfl
      rw [e1] at ho3
      exact ⟨_, rfl, ho3.bat.low, hk3⟩
    refine ⟨_, rfl, fun w2 hk2 hK => ?_, fun u28 => ?_⟩
    rotate_left 1
    simp only [dstOf, Act.put, List.getElem?_toArray, List.getElem?_cons_succ, List.getElem?_cons_zero, Option.bind_some, List.setIfInBounds_toArray, List.set_cons_zero, List.set_cons_succ, List.nil_append, List.cons_append]
    rotate_left 1
    · have k27 : BRd w2 u27 (hd10 t i tt pr o true false opt data) := hK (27, u27) (by simp) (by kernel_rfl)
      go_wp2
      exact ⟨_, rfl, k27, Keeps.refl _ _⟩
    intro w2 hk2 hK
    have k28 : BRd w2 u28 (hd10 t i tt pr o true false opt data) := hK (28, u28) (by simp)
    have hr2 := hr.keeps (S := fun _ => False) ((Keeps.refl (fun _ => False) w1).drew.trans hk2 (fun _ _ h => h)) (fun h => h)
    have hkB := hkA.trans hk2 (fun _ _ h => h)
    clear hK hC hkA hk2 hk0 hw1 hr q9 q1 q2 q3 q4 q5 q6 q7 HX HT HTT HPR e4h hc' eh
    obtain ⟨s28, z28, rfl, hz28, hzm28⟩ := BAt.slice k28
    have c7 : w2.cell? ⟨w.heap.size, 7, none⟩ = some (.string ⟨src.toArray⟩) := hr2.cell 7
    have c8 : w2.cell? ⟨w.heap.size, 8, none⟩ = some (.string ⟨dst.toArray⟩) := hr2.cell 8
    have c9 : w2.cell? ⟨w.heap.size, 9, none⟩ = some (.string ⟨opt.toArray⟩) := hr2.cell 9
    have e1 := ba_append src dst
    obtain ⟨sd, hsd⟩ : ∃ sd, src ++ dst = sd := ⟨_, rfl⟩
    rw [hsd] at e1
    have e2 := ba_append sd opt
    obtain ⟨bk, hbk⟩ : ∃ bk, sd ++ opt = bk := ⟨_, rfl⟩
    rw [hbk] at e2
    have hbkl : bk.length ≤ 100 := by rw [← hbk, ← hsd, List.length_append, List.length_append]; omega
    have hsl : sd.length = 8 := by rw [← hsd, List.length_append]; omega
    have HBK := Lib.hid hbk
    have HSD := Lib.hid hsd
    have hcv := conv_text w2 bk
    have hB0 := BAt.ofText w2 bk (by omega)
    have hkC := hkB.trans (Keeps.bytesWorld w2 5 ⟨bk.toArray⟩) (fun _ _ h => h)
    have hr3 := hr2.keeps (Keeps.bytesWorld w2 5 ⟨bk.toArray⟩) (fun h => h)
    have k29 := BRd.keeps k28 (Keeps.bytesWorld w2 5 ⟨bk.toArray⟩)
    obtain ⟨gc, hgc⟩ : ∃ gc, grownCap w2 bk.length 0 5 = gc := ⟨_, rfl⟩
    rw [hgc] at hcv hB0
    generalize hw3 : Lib.bytesWorld w2 5 ⟨bk.toArray⟩ = w3 at hcv hB0 hkC hr3 k29
    clear hbk hsd hgc hw3
    have HCV := Lib.hid hcv
    have hs0 : (src.length : Int) = 4 := by omega
    obtain ⟨HX10, hHX⟩ : ∃ L, hd10 t i tt pr o true false opt data = L := ⟨_, rfl⟩
    rw [hHX] at k29 hz28
    have hHl : HX10.length = 10 := by rw [← hHX]; rfl
    have HHl := Lib.hid hHl
    have HHX := Lib.hid hHX
    have hZ := BAt.lit w3 #[.int .u8 0, .int .u8 0] [0, 0] 2 5 rfl rfl (by omega)
    have hkZ := (Keeps.refl (fun _ => False) w3).alloc (.cells #[.int .u8 0, .int .u8 0] 5)
    have hrows := BBAt.lits (T := 22) (w := w3.alloc (.cells #[.int .u8 0, .int .u8 0] 5)) (q := (· < (w3.alloc (.cells #[.int .u8 0, .int .u8 0] 5)).heap.size)) #[.slice s28 HX10.length z28, .slice (some ⟨w3.heap.size, 0, none⟩) 2 2, .slice (some ⟨w2.heap.size, 0, none⟩) bk.length gc] _ [HX10, [0, 0], bk] 3 rfl rfl (by omega)
      ⟨BRd.keeps k29 hkZ, hZ.low, (BAt.keeps hB0 hkZ (fun _ _ h => h)).low, trivial⟩
    rw [size_alloc] at hrows
    have hflat : [HX10, [0, 0], bk].flatten = hdN t i tt pr o true false src dst opt data := by
      rw [← HBK.out, ← HSD.out, ← hHX]
      unfold hdN
      simp
    have hfl : (hdN t i tt pr o true false src dst opt data).length = 12 + bk.length := by rw [← hflat]; simp [hHl]; omega
    obtain ⟨CC, hCC⟩ : ∃ CC, 65535 - sum16 (hdN t i tt pr o true false src dst opt data) = CC := ⟨_, rfl⟩
    have hboth := both_any _ _ _ hrows.low (by rw [hflat, hfl]; omega)
    rw [hflat] at hboth
    have HB := Lib.hid hboth
    have HCC := Lib.hid hCC
    have hkE := (hkC.alloc (.cells #[.int .u8 0, .int .u8 0] 5)).alloc (.cells #[.slice s28 HX10.length z28, .slice (some ⟨w3.heap.size, 0, none⟩) 2 2, .slice (some ⟨w2.heap.size, 0, none⟩) bk.length gc] 22)
    have hkR := ((Keeps.refl (fun _ => False) w3).alloc (.cells #[.int .u8 0, .int .u8 0] 5)).alloc (.cells #[.slice s28 HX10.length z28, .slice (some ⟨w3.heap.size, 0, none⟩) 2 2, .slice (some ⟨w2.heap.size, 0, none⟩) bk.length gc] 22)
    have HFL := Lib.hid hfl
    clear hboth hflat hHX hCC hrows hZ hkZ hfl hHl
    go_wp2_with fail
    rw [HHX.out]
    refine HB.out.mono ?_
    rintro e w4 ⟨v4, rfl, ho4, hk4⟩
    have hkF := hkE.trans hk4 (fun _ _ h => h)
    have hr4 := (hr3.keeps hkR (fun h => h)).keeps hk4 (fun h => h)
    have k30 := BRd.keeps (BRd.keeps k29 hkR) hk4
    have hB1 := (BAt.keeps (BAt.keeps hB0 hkR (fun _ _ h => h)) hk4 (fun _ _ h => h)).low
    have hchk := rchk_any v4 _ w4 ho4.bat.low (by rw [HFL.out]; omega)
    rw [HCC.out] at hchk
    have HCHK := Lib.hid hchk
    clear hchk hk4 ho4 hkE hr3 k29 hB0 hkC hkR HB hkB hr2 k28 c7 c8 c9 e1 e2 hcv
    go_wp2_with (go_at_call 34; refine HCHK.out.mono ?_; rintro e w5 ⟨rfl, rfl⟩)
    refine region_T [] (fun _ => True) (by kernel_rfl) ?_
    have hC : (fun _ : World => True) w4.drew := trivial
    have hkA := hkF.drew
    refine anyT_take0 (i := 0) (v := ?_) rfl (by kernel_rfl) (by kernel_rfl) (by kernel_rfl) (by kernel_rfl) (by kernel_rfl) (fun _ _ _ h => h) hC (.inl ⟨by rfl, fun _ _ => ?_⟩) ?_
    rotate_left 1
    · go_simp
      try with_reducible rfl
    simp only [Act.put, List.getElem_toArray, List.getElem_cons_succ, List.getElem_cons_zero, List.setIfInBounds_toArray, List.set_cons_zero, List.set_cons_succ]
    refine anyT_take0 (i := 1) (v := ?_) rfl (by kernel_rfl) (by kernel_rfl) (by kernel_rfl) (by kernel_rfl) (by kernel_rfl) (fun _ _ _ h => h) hC (.inl ⟨by rfl, fun _ _ => ?_⟩) ?_
    rotate_left 1
    · go_simp
      try with_reducible rfl
    simp only [Act.put, List.getElem_toArray, List.getElem_cons_succ, List.getElem_cons_zero, List.setIfInBounds_toArray, List.set_cons_zero, List.set_cons_succ]
    refine anyT_take0 (i := 3) (v := ?_) rfl (by kernel_rfl) (by kernel_rfl) (by kernel_rfl) (by kernel_rfl) (by kernel_rfl) (fun _ _ _ h => h) hC (.inl ⟨by rfl, fun _ _ => ?_⟩) ?_
    rotate_left 1
    · go_simp
      try with_reducible rfl
    simp only [Act.put, List.getElem_toArray, List.getElem_cons_succ, List.getElem_cons_zero, List.setIfInBounds_toArray, List.set_cons_zero, List.set_cons_succ]
    refine anyT_take0 (i := 4) (v := ?_) rfl (by kernel_rfl) (by kernel_rfl) (by kernel_rfl) (by kernel_rfl) (by kernel_rfl) (fun _ _ _ h => h) hC (.inl ⟨by rfl, fun _ _ => ?_⟩) ?_
    rotate_left 1
    · go_simp
      try with_reducible rfl
    simp only [Act.put, List.getElem_toArray, List.getElem_cons_succ, List.getElem_cons_zero, List.setIfInBounds_toArray, List.set_cons_zero, List.set_cons_succ]
    refine anyT_par [(2, rBytes (b2 CC)), (5, rEq (.slice da data.length dc)), (6, rRows [HX10, b2 CC, bk, data]), (7, rBytes (bytesN t i tt pr o true false src dst opt data)), (8, rBytes (bytesN t i tt pr o true false src dst opt data))] _ [2, 5, 6, 7, 8] (fun _ => trivial) (by kernel_rfl) rfl (by kernel_rfl) rfl ?_
    refine ⟨_, rfl, fun w2 hk2 hK => ?_, fun u2 => ?_⟩
    rotate_left 1
    simp only [dstOf, Act.put, List.getElem?_toArray, List.getElem?_cons_succ, List.getElem?_cons_zero, Option.bind_some, List.setIfInBounds_toArray, List.set_cons_zero, List.set_cons_succ, List.nil_append, List.cons_append]
    rotate_left 1
    · go_wp2_with (refine (rtwo_any CC _ (by have := HCC.out; omega)).mono ?_; rintro e w3 ⟨v3, rfl, ho3, hk3⟩)
      exact ⟨_, rfl, ho3.bat.low, hk3⟩
    refine ⟨_, rfl, fun w2 hk2 hK => ?_, fun u5 => ?_⟩
    rotate_left 1
    simp only [dstOf, Act.put, List.getElem?_toArray, List.getElem?_cons_succ, List.getElem?_cons_zero, Option.bind_some, List.setIfInBounds_toArray, List.set_cons_zero, List.set_cons_succ, List.nil_append, List.cons_append]
    rotate_left 1
    · have hcc := (hr4.keeps (S := fun _ => False) ((Keeps.refl (fun _ => False) w4).drew.trans hk2 (fun _ _ h => h)) (fun h => h)).cell 10
      simp only [p4cells, List.getElem?_toArray, List.getElem?_cons_succ, List.getElem?_cons_zero] at hcc
      go_wp2
      exact ⟨_, rfl, rfl, Keeps.refl _ _⟩
    refine ⟨_, rfl, fun w2 hk2 hK => ?_, fun u6 => ?_⟩
    rotate_left 1
    simp only [dstOf, Act.put, List.getElem?_toArray, List.getElem?_cons_succ, List.getElem?_cons_zero, Option.bind_some, List.setIfInBounds_toArray, List.set_cons_zero, List.set_cons_succ, List.nil_append, List.cons_append]
    rotate_left 1
    · have k6 : BRd w2 u2 (b2 CC) := hK (2, u2) (by simp) (by kernel_rfl)
      obtain rfl : u5 = .slice da data.length dc := hK (5, u5) (by simp) (by kernel_rfl)
      have hkX := (Keeps.refl (fun _ => False) w4).drew.trans hk2 (fun _ _ h => h)
      have k7 := BRd.keeps k30 hkX
      have k8 := BRd.keeps (l := bk) hB1 hkX
      have k9 := hd.keeps (hkF.drew.trans hk2 (fun _ _ h => h))
      obtain ⟨s6, z6, rfl, -, -⟩ := BAt.slice k6
      go_wp2
      exact ⟨_, rfl, (BBAt.lits (q := (· < w2.heap.size)) _ [_, _, _, _] [HX10, b2 CC, bk, data] 4 rfl rfl (by omega) ⟨k7, k6, k8, k9, trivial⟩).low, (Keeps.refl _ _).alloc _⟩
    refine ⟨_, rfl, fun w2 hk2 hK => ?_, fun u7 => ?_⟩
    rotate_left 1
    simp only [dstOf, Act.put, List.getElem?_toArray, List.getElem?_cons_succ, List.getElem?_cons_zero, Option.bind_some, List.setIfInBounds_toArray, List.set_cons_zero, List.set_cons_succ, List.nil_append, List.cons_append]
    rotate_left 1
    · have k26 : BBRd w2 u6 [HX10, b2 CC, bk, data] := hK (6, u6) (by simp) (by kernel_rfl)
      go_wp2_with (refine (both_any _ _ _ k26 (by have := HHl.out; simp [b2]; omega)).mono ?_; rintro e w3 ⟨v3, rfl, ho3, hk3⟩)
      have e1 : [HX10, b2 CC, bk, data].flatten = bytesN t i tt pr o true false src dst opt data := by
        unfold bytesN
        rw [HCC.out, HHX.out, ← HBK.out, ← HSD.out]
        simp
      rw [e1] at ho3
      exact ⟨_, rfl, ho3.bat.low, hk3⟩
    refine ⟨_, rfl, fun w2 hk2 hK => ?_, fun u8 => ?_⟩
    rotate_left 1
    simp only [dstOf, Act.put, List.getElem?_toArray, List.getElem?_cons_succ, List.getElem?_cons_zero, Option.bind_some, List.setIfInBounds_toArray, List.set_cons_zero, List.set_cons_succ, List.nil_append, List.cons_append]
    rotate_left 1
    · have k27 : BRd w2 u7 (bytesN t i tt pr o true false src dst opt data) := hK (7, u7) (by simp) (by kernel_rfl)
      go_wp2
      exact ⟨_, rfl, k27, Keeps.refl _ _⟩
    intro w2 hk2 hK
    have k28 : BRd w2 u8 (bytesN t i tt pr o true false src dst opt data) := hK (8, u8) (by simp)
    go_wp2
    go_ret
    exact ⟨_, rfl, k28, hkA.trans hk2 (fun _ _ h => h)⟩
  · have hM : offN true true o = o3 := H3.out
    have HM := Lib.hid hM
    have hMle : (o3 : Int) ≤ 65535 := by omega
    go_wp2
    clear c9 c6 c4 c5 e8 r1 r2 r3 b1
    generalize hw1 : w.alloc _ = w1 at hr hk0 ⊢
    refine region_T [] (fun _ => True) (by kernel_rfl) ?_
    have hC : (fun _ : World => True) w1.drew := trivial
    have hkA := hk0.drew
    refine anyT_take0 (i := 0) (v := ?_) rfl (by kernel_rfl) (by kernel_rfl) (by kernel_rfl) (by kernel_rfl) (by kernel_rfl) (fun _ _ _ h => h) hC (.inl ⟨by rfl, fun _ _ => ?_⟩) ?_
    rotate_left 1
    · go_simp
      try with_reducible rfl
    simp only [Act.put, List.getElem_toArray, List.getElem_cons_succ, List.getElem_cons_zero, List.setIfInBounds_toArray, List.set_cons_zero, List.set_cons_succ]
    refine anyT_take0 (i := 1) (v := ?_) rfl (by kernel_rfl) (by kernel_rfl) (by kernel_rfl) (by kernel_rfl) (by kernel_rfl) (fun _ _ _ h => h) hC (.inl ⟨by rfl, fun _ _ => ?_⟩) ?_
    rotate_left 1
    · go_simp
      try with_reducible rfl
    simp only [Act.put, List.getElem_toArray, List.getElem_cons_succ, List.getElem_cons_zero, List.setIfInBounds_toArray, List.set_cons_zero, List.set_cons_succ]
    refine anyT_take0 (i := 2) (v := ?_) rfl (by kernel_rfl) (by kernel_rfl) (by kernel_rfl) (by kernel_rfl) (by kernel_rfl) (fun _ _ _ h => h) hC (.inl ⟨by rfl, fun _ _ => ?_⟩) ?_
    rotate_left 1
    · go_simp
      try with_reducible rfl
    simp only [Act.put, List.getElem_toArray, List.getElem_cons_succ, List.getElem_cons_zero, List.setIfInBounds_toArray, List.set_cons_zero, List.set_cons_succ]
    refine anyT_take0 (i := 3) (v := ?_) rfl (by kernel_rfl) (by kernel_rfl) (by kernel_rfl) (by kernel_rfl) (by kernel_rfl) (fun _ _ _ h => h) hC (.inl ⟨by rfl, fun _ _ => ?_⟩) ?_
    rotate_left 1
    · go_simp
      try with_reducible rfl
    simp only [Act.put, List.getElem_toArray, List.getElem_cons_succ, List.getElem_cons_zero, List.setIfInBounds_toArray, List.set_cons_zero, List.set_cons_succ]
    refine anyT_take0 (i := 7) (v := ?_) rfl (by kernel_rfl) (by kernel_rfl) (by kernel_rfl) (by kernel_rfl) (by kernel_rfl) (fun _ _ _ h => h) hC (.inl ⟨by rfl, fun _ _ => ?_⟩) ?_
    rotate_left 1
    · go_simp
      try with_reducible rfl
    simp only [Act.put, List.getElem_toArray, List.getElem_cons_succ, List.getElem_cons_zero, List.setIfInBounds_toArray, List.set_cons_zero, List.set_cons_succ]
    refine anyT_take0 (i := 8) (v := ?_) rfl (by kernel_rfl) (by kernel_rfl) (by kernel_rfl) (by kernel_rfl) (by kernel_rfl) (fun _ _ _ h => h) hC (.inl ⟨by rfl, fun _ _ => ?_⟩) ?_
    rotate_left 1
    · go_simp
      try with_reducible rfl
    simp only [Act.put, List.getElem_toArray, List.getElem_cons_succ, List.getElem_cons_zero, List.setIfInBounds_toArray, List.set_cons_zero, List.set_cons_succ]
    refine anyT_take0 (i := 9) (v := ?_) rfl (by kernel_rfl) (by kernel_rfl) (by kernel_rfl) (by kernel_rfl) (by kernel_rfl) (fun _ _ _ h => h) hC (.inl ⟨by rfl, fun _ _ => ?_⟩) ?_
    rotate_left 1
    · go_simp
      try with_reducible rfl
    simp only [Act.put, List.getElem_toArray, List.getElem_cons_succ, List.getElem_cons_zero, List.setIfInBounds_toArray, List.set_cons_zero, List.set_cons_succ]
    refine anyT_take0 (i := 14) (v := ?_) rfl (by kernel_rfl) (by kernel_rfl) (by kernel_rfl) (by kernel_rfl) (by kernel_rfl) (fun _ _ _ h => h) hC (.inl ⟨by rfl, fun _ _ => ?_⟩) ?_
    rotate_left 1
    · go_simp
      try with_reducible rfl
    simp only [Act.put, List.getElem_toArray, List.getElem_cons_succ, List.getElem_cons_zero, List.setIfInBounds_toArray, List.set_cons_zero, List.set_cons_succ]
    refine anyT_take0 (i := 17) (v := ?_) rfl (by kernel_rfl) (by kernel_rfl) (by kernel_rfl) (by kernel_rfl) (by kernel_rfl) (fun _ _ _ h => h) hC (.inl ⟨by rfl, fun _ _ => ?_⟩) ?_
    rotate_left 1
    · go_simp
      try with_reducible rfl
    simp only [Act.put, List.getElem_toArray, List.getElem_cons_succ, List.getElem_cons_zero, List.setIfInBounds_toArray, List.set_cons_zero, List.set_cons_succ]
    refine anyT_take0 (i := 19) (v := ?_) rfl (by kernel_rfl) (by kernel_rfl) (by kernel_rfl) (by kernel_rfl) (by kernel_rfl) (fun _ _ _ h => h) hC (.inl ⟨by rfl, fun _ _ => ?_⟩) ?_
    rotate_left 1
    · go_simp
      try with_reducible rfl
    simp only [Act.put, List.getElem_toArray, List.getElem_cons_succ, List.getElem_cons_zero, List.setIfInBounds_toArray, List.set_cons_zero, List.set_cons_succ]
    refine anyT_take0 (i := 22) (v := ?_) rfl (by kernel_rfl) (by kernel_rfl) (by kernel_rfl) (by kernel_rfl) (by kernel_rfl) (fun _ _ _ h => h) hC (.inl ⟨by rfl, fun _ _ => ?_⟩) ?_
    rotate_left 1
    · go_simp
      try with_reducible rfl
    simp only [Act.put, List.getElem_toArray, List.getElem_cons_succ, List.getElem_cons_zero, List.setIfInBounds_toArray, List.set_cons_zero, List.set_cons_succ]
    refine anyT_par [(4, rEq (.int .i64 (t : Int))), (5, rEq (.int .u8 (t : Int))), (6, rBytes [X0, Xt]), (10, rEq (.slice da data.length dc)), (11, rEq (.int .i64 (data.length : Int))), (12, rEq (.int .i64 (c : Int))), (13, rBytes (b2 c)), (15, rEq (.int .i64 (i : Int))), (16, rBytes (b2 i)), (18, rBytes (b2 o3)),
      (20, rEq (.int .i64 (tt : Int))), (21, rEq (.int .u8 (tt : Int))), (23, rEq (.int .i64 (pr : Int))), (24, rEq (.int .u8 (pr : Int))), (25, rBytes [Xl, Xp]), (26, rRows [[X0, Xt], b2 c, b2 i, b2 o3, [Xl, Xp]]), (27, rBytes (hd10 t i tt pr o true true opt data)), (28, rBytes (hd10 t i tt pr o true true opt data))] _ [4, 5, 6, 10, 11, 12, 13, 15, 16, 18, 20, 21, 23, 24, 25, 26, 27, 28] (fun _ => trivial) (by kernel_rfl) rfl (by kernel_rfl) rfl ?_
    refine ⟨_, rfl, fun w2 hk2 hK => ?_, fun u4 => ?_⟩
    rotate_left 1
    simp only [dstOf, Act.put, List.getElem?_toArray, List.getElem?_cons_succ, List.getElem?_cons_zero, Option.bind_some, List.setIfInBounds_toArray, List.set_cons_zero, List.set_cons_succ, List.nil_append, List.cons_append]
    rotate_left 1
    · have hcc := (hr.keeps (S := fun _ => False) ((Keeps.refl (fun _ => False) w1).drew.trans hk2 (fun _ _ h => h)) (fun h => h)).cell 0
      simp only [p4cells, List.getElem?_toArray, List.getElem?_cons_succ, List.getElem?_cons_zero] at hcc
      go_wp2
      exact ⟨_, rfl, rfl, Keeps.refl _ _⟩
    refine ⟨_, rfl, fun w2 hk2 hK => ?_, fun u5 => ?_⟩
    rotate_left 1
    simp only [dstOf, Act.put, List.getElem?_toArray, List.getElem?_cons_succ, List.getElem?_cons_zero, Option.bind_some, List.setIfInBounds_toArray, List.set_cons_zero, List.set_cons_succ, List.nil_append, List.cons_append]
    rotate_left 1
    · obtain rfl : u4 = .int .i64 (t : Int) := hK (4, u4) (by simp) (by kernel_rfl)
      go_wp2
      exact ⟨_, rfl, rfl, Keeps.refl _ _⟩
    refine ⟨_, rfl, fun w2 hk2 hK => ?_, fun u6 => ?_⟩
    rotate_left 1
    simp only [dstOf, Act.put, List.getElem?_toArray, List.getElem?_cons_succ, List.getElem?_cons_zero, Option.bind_some, List.setIfInBounds_toArray, List.set_cons_zero, List.set_cons_succ, List.nil_append, List.cons_append]
    rotate_left 1
    · obtain rfl : u5 = .int .u8 (t : Int) := hK (5, u5) (by simp) (by kernel_rfl)
      go_wp2
      exact ⟨_, rfl, (BAt.lit _ _ [X0, Xt] 2 _ (by rw [HX.out, HT.out]; rfl) rfl (by omega)).low, (Keeps.refl _ _).alloc _⟩
    refine ⟨_, rfl, fun w2 hk2 hK => ?_, fun u10 => ?_⟩
    rotate_left 1
    simp only [dstOf, Act.put, List.getElem?_toArray, List.getElem?_cons_succ, List.getElem?_cons_zero, Option.bind_some, List.setIfInBounds_toArray, List.set_cons_zero, List.set_cons_succ, List.nil_append, List.cons_append]
    rotate_left 1
    · have hcc := (hr.keeps (S := fun _ => False) ((Keeps.refl (fun _ => False) w1).drew.trans hk2 (fun _ _ h => h)) (fun h => h)).cell 10
      simp only [p4cells, List.getElem?_toArray, List.getElem?_cons_succ, List.getElem?_cons_zero] at hcc
      go_wp2
      exact ⟨_, rfl, rfl, Keeps.refl _ _⟩
    refine ⟨_, rfl, fun w2 hk2 hK => ?_, fun u11 => ?_⟩
    rotate_left 1
    simp only [dstOf, Act.put, List.getElem?_toArray, List.getElem?_cons_succ, List.getElem?_cons_zero, Option.bind_some, List.setIfInBounds_toArray, List.set_cons_zero, List.set_cons_succ, List.nil_append, List.cons_append]
    rotate_left 1
    · obtain rfl : u10 = .slice da data.length dc := hK (10, u10) (by simp) (by kernel_rfl)
      go_wp2
      exact ⟨_, rfl, rfl, Keeps.refl _ _⟩
    refine ⟨_, rfl, fun w2 hk2 hK => ?_, fun u12 => ?_⟩
    rotate_left 1
    simp only [dstOf, Act.put, List.getElem?_toArray, List.getElem?_cons_succ, List.getElem?_cons_zero, Option.bind_some, List.setIfInBounds_toArray, List.set_cons_zero, List.set_cons_succ, List.nil_append, List.cons_append]
    rotate_left 1
    · obtain rfl : u11 = .int .i64 (data.length : Int) := hK (11, u11) (by simp) (by kernel_rfl)
      go_wp2
      exact ⟨_, rfl, rfl, Keeps.refl _ _⟩
    refine ⟨_, rfl, fun w2 hk2 hK => ?_, fun u13 => ?_⟩
    rotate_left 1
    simp only [dstOf, Act.put, List.getElem?_toArray, List.getElem?_cons_succ, List.getElem?_cons_zero, Option.bind_some, List.setIfInBounds_toArray, List.set_cons_zero, List.set_cons_succ, List.nil_append, List.cons_append]
    rotate_left 1
    · obtain rfl : u12 = .int .i64 (c : Int) := hK (12, u12) (by simp) (by kernel_rfl)
      go_wp2_with (refine (rtwo_any c _ (by have := HC.out; have := HN.out; omega)).mono ?_; rintro e w3 ⟨v3, rfl, ho3, hk3⟩)
      exact ⟨_, rfl, ho3.bat.low, hk3⟩
    refine ⟨_, rfl, fun w2 hk2 hK => ?_, fun u15 => ?_⟩
    rotate_left 1
    simp only [dstOf, Act.put, List.getElem?_toArray, List.getElem?_cons_succ, List.getElem?_cons_zero, Option.bind_some, List.setIfInBounds_toArray, List.set_cons_zero, List.set_cons_succ, List.nil_append, List.cons_append]
    rotate_left 1
    · have hcc := (hr.keeps (S := fun _ => False) ((Keeps.refl (fun _ => False) w1).drew.trans hk2 (fun _ _ h => h)) (fun h => h)).cell 1
      simp only [p4cells, List.getElem?_toArray, List.getElem?_cons_succ, List.getElem?_cons_zero] at hcc
      go_wp2
      exact ⟨_, rfl, rfl, Keeps.refl _ _⟩
    refine ⟨_, rfl, fun w2 hk2 hK => ?_, fun u16 => ?_⟩
    rotate_left 1
    simp only [dstOf, Act.put, List.getElem?_toArray, List.getElem?_cons_succ, List.getElem?_cons_zero, Option.bind_some, List.setIfInBounds_toArray, List.set_cons_zero, List.set_cons_succ, List.nil_append, List.cons_append]
    rotate_left 1
    · obtain rfl : u15 = .int .i64 (i : Int) := hK (15, u15) (by simp) (by kernel_rfl)
      go_wp2_with (refine (rtwo_any i _ hi).mono ?_; rintro e w3 ⟨v3, rfl, ho3, hk3⟩)
      exact ⟨_, rfl, ho3.bat.low, hk3⟩
    refine ⟨_, rfl, fun w2 hk2 hK => ?_, fun u18 => ?_⟩
    rotate_left 1
    simp only [dstOf, Act.put, List.getElem?_toArray, List.getElem?_cons_succ, List.getElem?_cons_zero, Option.bind_some, List.setIfInBounds_toArray, List.set_cons_zero, List.set_cons_succ, List.nil_append, List.cons_append]
    rotate_left 1
    · go_wp2_with (refine (rtwo_any o3 _ (by omega)).mono ?_; rintro e w3 ⟨v3, rfl, ho3, hk3⟩)
      exact ⟨_, rfl, ho3.bat.low, hk3⟩
    refine ⟨_, rfl, fun w2 hk2 hK => ?_, fun u20 => ?_⟩
    rotate_left 1
    simp only [dstOf, Act.put, List.getElem?_toArray, List.getElem?_cons_succ, List.getElem?_cons_zero, Option.bind_some, List.setIfInBounds_toArray, List.set_cons_zero, List.set_cons_succ, List.nil_append, List.cons_append]
    rotate_left 1
    · have hcc := (hr.keeps (S := fun _ => False) ((Keeps.refl (fun _ => False) w1).drew.trans hk2 (fun _ _ h => h)) (fun h => h)).cell 2
      simp only [p4cells, List.getElem?_toArray, List.getElem?_cons_succ, List.getElem?_cons_zero] at hcc
      go_wp2
      exact ⟨_, rfl, rfl, Keeps.refl _ _⟩
    refine ⟨_, rfl, fun w2 hk2 hK => ?_, fun u21 => ?_⟩
    rotate_left 1
    simp only [dstOf, Act.put, List.getElem?_toArray, List.getElem?_cons_succ, List.getElem?_cons_zero, Option.bind_some, List.setIfInBounds_toArray, List.set_cons_zero, List.set_cons_succ, List.nil_append, List.cons_append]
    rotate_left 1
    · obtain rfl : u20 = .int .i64 (tt : Int) := hK (20, u20) (by simp) (by kernel_rfl)
      go_wp2
      exact ⟨_, rfl, rfl, Keeps.refl _ _⟩
    refine ⟨_, rfl, fun w2 hk2 hK => ?_, fun u23 => ?_⟩
    rotate_left 1
    simp only [dstOf, Act.put, List.getElem?_toArray, List.getElem?_cons_succ, List.getElem?_cons_zero, Option.bind_some, List.setIfInBounds_toArray, List.set_cons_zero, List.set_cons_succ, List.nil_append, List.cons_append]
    rotate_left 1
    · have hcc := (hr.keeps (S := fun _ => False) ((Keeps.refl (fun _ => False) w1).drew.trans hk2 (fun _ _ h => h)) (fun h => h)).cell 3
      simp only [p4cells, List.getElem?_toArray, List.getElem?_cons_succ, List.getElem?_cons_zero] at hcc
      go_wp2
      exact ⟨_, rfl, rfl, Keeps.refl _ _⟩
    refine ⟨_, rfl, fun w2 hk2 hK => ?_, fun u24 => ?_⟩
    rotate_left 1
    simp only [dstOf, Act.put, List.getElem?_toArray, List.getElem?_cons_succ, List.getElem?_cons_zero, Option.bind_some, List.setIfInBounds_toArray, List.set_cons_zero, List.set_cons_succ, List.nil_append, List.cons_append]
    rotate_left 1
    · obtain rfl : u23 = .int .i64 (pr : Int) := hK (23, u23) (by simp) (by kernel_rfl)
      go_wp2
      exact ⟨_, rfl, rfl, Keeps.refl _ _⟩
    refine ⟨_, rfl, fun w2 hk2 hK => ?_, fun u25 => ?_⟩
    rotate_left 1
    simp only [dstOf, Act.put, List.getElem?_toArray, List.getElem?_cons_succ, List.getElem?_cons_zero, Option.bind_some, List.setIfInBounds_toArray, List.set_cons_zero, List.set_cons_succ, List.nil_append, List.cons_append]
    rotate_left 1
    · obtain rfl : u21 = .int .u8 (tt : Int) := hK (21, u21) (by simp) (by kernel_rfl)
      obtain rfl : u24 = .int .u8 (pr : Int) := hK (24, u24) (by simp) (by kernel_rfl)
      go_wp2
      exact ⟨_, rfl, (BAt.lit _ _ [Xl, Xp] 2 _ (by rw [HTT.out, HPR.out]; rfl) rfl (by omega)).low, (Keeps.refl _ _).alloc _⟩
    refine ⟨_, rfl, fun w2 hk2 hK => ?_, fun u26 => ?_⟩
    rotate_left 1
    simp only [dstOf, Act.put, List.getElem?_toArray, List.getElem?_cons_succ, List.getElem?_cons_zero, Option.bind_some, List.setIfInBounds_toArray, List.set_cons_zero, List.set_cons_succ, List.nil_append, List.cons_append]
    rotate_left 1
    · have k6 : BRd w2 u6 [X0, Xt] := hK (6, u6) (by simp) (by kernel_rfl)
      have k13 : BRd w2 u13 (b2 c) := hK (13, u13) (by simp) (by kernel_rfl)
      have k16 : BRd w2 u16 (b2 i) := hK (16, u16) (by simp) (by kernel_rfl)
      have k18 : BRd w2 u18 (b2 o3) := hK (18, u18) (by simp) (by kernel_rfl)
      have k25 : BRd w2 u25 [Xl, Xp] := hK (25, u25) (by simp) (by kernel_rfl)
      obtain ⟨s6, z6, rfl, -, -⟩ := BAt.slice k6
      obtain ⟨s13, z13, rfl, -, -⟩ := BAt.slice k13
      obtain ⟨s16, z16, rfl, -, -⟩ := BAt.slice k16
      obtain ⟨s18, z18, rfl, -, -⟩ := BAt.slice k18
      obtain ⟨s25, z25, rfl, -, -⟩ := BAt.slice k25
      go_wp2
      exact ⟨_, rfl, (BBAt.lits (q := (· < w2.heap.size)) _ [_, _, _, _, _] [[X0, Xt], b2 c, b2 i, b2 o3, [Xl, Xp]] 5 rfl rfl (by omega) ⟨k6, k13, k16, k18, k25, trivial⟩).low, (Keeps.refl _ _).alloc _⟩
    refine ⟨_, rfl, fun w2 hk2 hK => ?_, fun u27 => ?_⟩
    rotate_left 1
    simp only [dstOf, Act.put, List.getElem?_toArray, List.getElem?_cons_succ, List.getElem?_cons_zero, Option.bind_some, List.setIfInBounds_toArray, List.set_cons_zero, List.set_cons_succ, List.nil_append, List.cons_append]
    rotate_left 1
    · have k26 : BBRd w2 u26 [[X0, Xt], b2 c, b2 i, b2 o3, [Xl, Xp]] := hK (26, u26) (by simp) (by kernel_rfl)
      go_wp2_with (refine (both_any _ _ _ k26 (by simp [b2])).mono ?_; rintro e w3 ⟨v3, rfl, ho3, hk3⟩)
      have e1 : [[X0, Xt], b2 c, b2 i, b2 o3, [Xl, Xp]].flatten = hd10 t i tt pr o true true opt data := by
        unfold hd10 fr10
        rw [HN.out, HC.out, HH.out, HM.out, HX0.out, HXt.out, HXl.out, HXp.out]
        rfl
      rw [e1] at ho3
      exact ⟨_, rfl, ho3.bat.low, hk3⟩
    refine ⟨_, rfl, fun w2 hk2 hK => ?_, fun u28 => ?_⟩
    rotate_left 1
    simp only [dstOf, Act.put, List.getElem?_toArray, List.getElem?_cons_succ, List.getElem?_cons_zero, Option.bind_some, List.setIfInBounds_toArray, List.set_cons_zero, List.set_cons_succ, List.nil_append, List.cons_append]
    rotate_left 1
    · have k27 : BRd w2 u27 (hd10 t i tt pr o true true opt data) := hK (27, u27) (by simp) (by kernel_rfl)
      go_wp2
      exact ⟨_, rfl, k27, Keeps.refl _ _⟩
    intro w2 hk2 hK
    have k28 : BRd w2 u28 (hd10 t i tt pr o true true opt data) := hK (28, u28) (by simp)
    have hr2 := hr.keeps (S := fun _ => False) ((Keeps.refl (fun _ => False) w1).drew.trans hk2 (fun _ _ h => h)) (fun h => h)
    have hkB := hkA.trans hk2 (fun _ _ h => h)
    clear hK hC hkA hk2 hk0 hw1 hr q9 q1 q2 q3 q4 q5 q6 q7 HX HT HTT HPR e4h hc' eh
    obtain ⟨s28, z28, rfl, hz28, hzm28⟩ := BAt.slice k28
    have c7 : w2.cell? ⟨w.heap.size, 7, none⟩ = some (.string ⟨src.toArray⟩) := hr2.cell 7
    have c8 : w2.cell? ⟨w.heap.size, 8, none⟩ = some (.string ⟨dst.toArray⟩) := hr2.cell 8
    have c9 : w2.cell? ⟨w.heap.size, 9, none⟩ = some (.string ⟨opt.toArray⟩) := hr2.cell 9
    have e1 := ba_append src dst
    obtain ⟨sd, hsd⟩ : ∃ sd, src ++ dst = sd := ⟨_, rfl⟩
    rw [hsd] at e1
    have e2 := ba_append sd opt
    obtain ⟨bk, hbk⟩ : ∃ bk, sd ++ opt = bk := ⟨_, rfl⟩
    rw [hbk] at e2
    have hbkl : bk.length ≤ 100 := by rw [← hbk, ← hsd, List.length_append, List.length_append]; omega
    have hsl : sd.length = 8 := by rw [← hsd, List.length_append]; omega
    have HBK := Lib.hid hbk
    have HSD := Lib.hid hsd
    have hcv := conv_text w2 bk
    have hB0 := BAt.ofText w2 bk (by omega)
    have hkC := hkB.trans (Keeps.bytesWorld w2 5 ⟨bk.toArray⟩) (fun _ _ h => h)
    have hr3 := hr2.keeps (Keeps.bytesWorld w2 5 ⟨bk.toArray⟩) (fun h => h)
    have k29 := BRd.keeps k28 (Keeps.bytesWorld w2 5 ⟨bk.toArray⟩)
    obtain ⟨gc, hgc⟩ : ∃ gc, grownCap w2 bk.length 0 5 = gc := ⟨_, rfl⟩
    rw [hgc] at hcv hB0
    generalize hw3 : Lib.bytesWorld w2 5 ⟨bk.toArray⟩ = w3 at hcv hB0 hkC hr3 k29
    clear hbk hsd hgc hw3
    have HCV := Lib.hid hcv
    have hs0 : (src.length : Int) = 4 := by omega
    obtain ⟨HX10, hHX⟩ : ∃ L, hd10 t i tt pr o true true opt data = L := ⟨_, rfl⟩
    rw [hHX] at k29 hz28
    have hHl : HX10.length = 10 := by rw [← hHX]; rfl
    have HHl := Lib.hid hHl
    have HHX := Lib.hid hHX
    have hZ := BAt.lit w3 #[.int .u8 0, .int .u8 0] [0, 0] 2 5 rfl rfl (by omega)
    have hkZ := (Keeps.refl (fun _ => False) w3).alloc (.cells #[.int .u8 0, .int .u8 0] 5)
    have hrows := BBAt.lits (T := 22) (w := w3.alloc (.cells #[.int .u8 0, .int .u8 0] 5)) (q := (· < (w3.alloc (.cells #[.int .u8 0, .int .u8 0] 5)).heap.size)) #[.slice s28 HX10.length z28, .slice (some ⟨w3.heap.size, 0, none⟩) 2 2, .slice (some ⟨w2.heap.size, 0, none⟩) bk.length gc] _ [HX10, [0, 0], bk] 3 rfl rfl (by omega)
      ⟨BRd.keeps k29 hkZ, hZ.low, (BAt.keeps hB0 hkZ (fun _ _ h => h)).low, trivial⟩
    rw [size_alloc] at hrows
    have hflat : [HX10, [0, 0], bk].flatten = hdN t i tt pr o true true src dst opt data := by
      rw [← HBK.out, ← HSD.out, ← hHX]
      unfold hdN
      simp
    have hfl : (hdN t i tt pr o true true src dst opt data).length = 12 + bk.length := by rw [← hflat]; simp [hHl]; omega
    obtain ⟨CC, hCC⟩ : ∃ CC, 65535 - sum16 (hdN t i tt pr o true true src dst opt data) = CC := ⟨_, rfl⟩
    have hboth := both_any _ _ _ hrows.low (by rw [hflat, hfl]; omega)
    rw [hflat] at hboth
    have HB := Lib.hid hboth
    have HCC := Lib.hid hCC
    have hkE := (hkC.alloc (.cells #[.int .u8 0, .int .u8 0] 5)).alloc (.cells #[.slice s28 HX10.length z28, .slice (some ⟨w3.heap.size, 0, none⟩) 2 2, .slice (some ⟨w2.heap.size, 0, none⟩) bk.length gc] 22)
    have hkR := ((Keeps.refl (fun _ => False) w3).alloc (.cells #[.int .u8 0, .int .u8 0] 5)).alloc (.cells #[.slice s28 HX10.length z28, .slice (some ⟨w3.heap.size, 0, none⟩) 2 2, .slice (some ⟨w2.heap.size, 0, none⟩) bk.length gc] 22)
    have HFL := Lib.hid hfl
    clear hboth hflat hHX hCC hrows hZ hkZ hfl hHl
    go_wp2_with fail
    rw [HHX.out]
    refine HB.out.mono ?_
    rintro e w4 ⟨v4, rfl, ho4, hk4⟩
    have hkF := hkE.trans hk4 (fun _ _ h => h)
    have hr4 := (hr3.keeps hkR (fun h => h)).keeps hk4 (fun h => h)
    have k30 := BRd.keeps (BRd.keeps k29 hkR) hk4
    have hB1 := (BAt.keeps (BAt.keeps hB0 hkR (fun _ _ h => h)) hk4 (fun _ _ h => h)).low
    have hchk := rchk_any v4 _ w4 ho4.bat.low (by rw [HFL.out]; omega)
    rw [HCC.out] at hchk
    have HCHK := Lib.hid hchk
    clear hchk hk4 ho4 hkE hr3 k29 hB0 hkC hkR HB hkB hr2 k28 c7 c8 c9 e1 e2 hcv
    go_wp2_with (go_at_call 34; refine HCHK.out.mono ?_; rintro e w5 ⟨rfl, rfl⟩)
    refine region_T [] (fun _ => True) (by kernel_rfl) ?_
    have hC : (fun _ : World => True) w4.drew := trivial
    have hkA := hkF.drew
    refine anyT_take0 (i := 0) (v := ?_) rfl (by kernel_rfl) (by kernel_rfl) (by kernel_rfl) (by kernel_rfl) (by kernel_rfl) (fun _ _ _ h => h) hC (.inl ⟨by rfl, fun _ _ => ?_⟩) ?_
    rotate_left 1
    · go_simp
      try with_reducible rfl
    simp only [Act.put, List.getElem_toArray, List.getElem_cons_succ, List.getElem_cons_zero, List.setIfInBounds_toArray, List.set_cons_zero, List.set_cons_succ]
    refine anyT_take0 (i := 1) (v := ?_) rfl (by kernel_rfl) (by kernel_rfl) (by kernel_rfl) (by kernel_rfl) (by kernel_rfl) (fun _ _ _ h => h) hC (.inl ⟨by rfl, fun _ _ => ?_⟩) ?_
    rotate_left 1
    · go_simp
      try with_reducible rfl
    simp only [Act.put, List.getElem_toArray, List.getElem_cons_succ, List.getElem_cons_zero, List.setIfInBounds_toArray, List.set_cons_zero, List.set_cons_succ]
    refine anyT_take0 (i := 3) (v := ?_) rfl (by kernel_rfl) (by kernel_rfl) (by kernel_rfl) (by kernel_rfl) (by kernel_rfl) (fun _ _ _ h => h) hC (.inl ⟨by rfl, fun _ _ => ?_⟩) ?_
    rotate_left 1
    · go_simp
      try with_reducible rfl
    simp only [Act.put, List.getElem_toArray, List.getElem_cons_succ, List.getElem_cons_zero, List.setIfInBounds_toArray, List.set_cons_zero, List.set_cons_succ]
    refine anyT_take0 (i := 4) (v := ?_) rfl (by kernel_rfl) (by kernel_rfl) (by kernel_rfl) (by kernel_rfl) (by kernel_rfl) (fun _ _ _ h => h) hC (.inl ⟨by rfl, fun _ _ => ?_⟩) ?_
    rotate_left 1
    · go_simp
      try with_reducible rfl
    simp only [Act.put, List.getElem_toArray, List.getElem_cons_succ, List.getElem_cons_zero, List.setIfInBounds_toArray, List.set_cons_zero, List.set_cons_succ]
    refine anyT_par [(2, rBytes (b2 CC)), (5, rEq (.slice da data.length dc)), (6, rRows [HX10, b2 CC, bk, data]), (7, rBytes (bytesN t i tt pr o true true src dst opt data)), (8, rBytes (bytesN t i tt pr o true true src dst opt data))] _ [2, 5, 6, 7, 8] (fun _ => trivial) (by kernel_rfl) rfl (by kernel_rfl) rfl ?_
    refine ⟨_, rfl, fun w2 hk2 hK => ?_, fun u2 => ?_⟩
    rotate_left 1
    simp only [dstOf, Act.put, List.getElem?_toArray, List.getElem?_cons_succ, List.getElem?_cons_zero, Option.bind_some, List.setIfInBounds_toArray, List.set_cons_zero, List.set_cons_succ, List.nil_append, List.cons_append]
    rotate_left 1
    · go_wp2_with (refine (rtwo_any CC _ (by have := HCC.out; omega)).mono ?_; rintro e w3 ⟨v3, rfl, ho3, hk3⟩)
      exact ⟨_, rfl, ho3.bat.low, hk3⟩
    refine ⟨_, rfl, fun w2 hk2 hK => ?_, fun u5 => ?_⟩
    rotate_left 1
    simp only [dstOf, Act.put, List.getElem?_toArray, List.getElem?_cons_succ, List.getElem?_cons_zero, Option.bind_some, List.setIfInBounds_toArray, List.set_cons_zero, List.set_cons_succ, List.nil_append, List.cons_append]
    rotate_left 1
    · have hcc := (hr4.keeps (S := fun _ => False) ((Keeps.refl (fun _ => False) w4).drew.trans hk2 (fun _ _ h => h)) (fun h => h)).cell 10
      simp only [p4cells, List.getElem?_toArray, List.getElem?_cons_succ, List.getElem?_cons_zero] at hcc
      go_wp2
      exact ⟨_, rfl, rfl, Keeps.refl _ _⟩
    refine ⟨_, rfl, fun w2 hk2 hK => ?_, fun u6 => ?_⟩
    rotate_left 1
    simp only [dstOf, Act.put, List.getElem?_toArray, List.getElem?_cons_succ, List.getElem?_cons_zero, Option.bind_some, List.setIfInBounds_toArray, List.set_cons_zero, List.set_cons_succ, List.nil_append, List.cons_append]
    rotate_left 1
    · have k6 : BRd w2 u2 (b2 CC) := hK (2, u2) (by simp) (by kernel_rfl)
      obtain rfl : u5 = .slice da data.length dc := hK (5, u5) (by simp) (by kernel_rfl)
      have hkX := (Keeps.refl (fun _ => False) w4).drew.trans hk2 (fun _ _ h => h)
      have k7 := BRd.keeps k30 hkX
      have k8 := BRd.keeps (l := bk) hB1 hkX
      have k9 := hd.keeps (hkF.drew.trans hk2 (fun _ _ h => h))
      obtain ⟨s6, z6, rfl, -, -⟩ := BAt.slice k6
      go_wp2
      exact ⟨_, rfl, (BBAt.lits (q := (· < w2.heap.size)) _ [_, _, _, _] [HX10, b2 CC, bk, data] 4 rfl rfl (by omega) ⟨k7, k6, k8, k9, trivial⟩).low, (Keeps.refl _ _).alloc _⟩
    refine ⟨_, rfl, fun w2 hk2 hK => ?_, fun u7 => ?_⟩
    rotate_left 1
    simp only [dstOf, Act.put, List.getElem?_toArray, List.getElem?_cons_succ, List.getElem?_cons_zero, Option.bind_some, List.setIfInBounds_toArray, List.set_cons_zero, List.set_cons_succ, List.nil_append, List.cons_append]
    rotate_left 1
    · have k26 : BBRd w2 u6 [HX10, b2 CC, bk, data] := hK (6, u6) (by simp) (by kernel_rfl)
      go_wp2_with (refine (both_any _ _ _ k26 (by have := HHl.out; simp [b2]; omega)).mono ?_; rintro e w3 ⟨v3, rfl, ho3, hk3⟩)
      have e1 : [HX10, b2 CC, bk, data].flatten = bytesN t i tt pr o true true src dst opt data := by
        unfold bytesN
        rw [HCC.out, HHX.out, ← HBK.out, ← HSD.out]
        simp
      rw [e1] at ho3
      exact ⟨_, rfl, ho3.bat.low, hk3⟩
    refine ⟨_, rfl, fun w2 hk2 hK => ?_, fun u8 => ?_⟩
    rotate_left 1
    simp only [dstOf, Act.put, List.getElem?_toArray, List.getElem?_cons_succ, List.getElem?_cons_zero, Option.bind_some, List.setIfInBounds_toArray, List.set_cons_zero, List.set_cons_succ, List.nil_append, List.cons_append]
    rotate_left 1
    · have k27 : BRd w2 u7 (bytesN t i tt pr o true true src dst opt data) := hK (7, u7) (by simp) (by kernel_rfl)
      go_wp2
      exact ⟨_, rfl, k27, Keeps.refl _ _⟩
    intro w2 hk2 hK
    have k28 : BRd w2 u8 (bytesN t i tt pr o true true src dst opt data) := hK (8, u8) (by simp)
    go_wp2
    go_ret
    exact ⟨_, rfl, k28, hkA.trans hk2 (fun _ _ h => h)⟩
end Go.Proofs.YtjcbbmlloadagaaDoor
