/- Words, walks and plain laws that the claim leans on, part 26. -/
import Derived.Test.YtjcbbmlloadagaaDoorM24
import Derived.Test.YtjcbbmlloadagaaDoorM25

/-! The law Ip4Heads. -/
namespace Go.Proofs.YtjcbbmlloadagaaDoor
set_option linter.unusedVariables false
set_option linter.unusedSimpArgs false
open Go.RowKit

theorem byF_at (l : List UInt8) (i : Nat) (h : i < l.length) : byF l i = l[i].toNat := by simp [byF, h]
theorem bytesP_head (p : P4) (h : checkE p = 0) : (bytesP p).length = 20 + p.opt.length + p.data.length ∧ twoF (bytesP p) 2 = (bytesP p).length ∧ headF (bytesP p) = 20 + p.opt.length ∧ byF (bytesP p) 0 / 16 = 4 ∧
    sum16 ((bytesP p).take (20 + p.opt.length)) = 65535 := by
  obtain ⟨⟨a1, a2⟩, ⟨b1, b2⟩, ⟨c1, c2⟩, ⟨d1, d2⟩, ⟨e1, e2⟩, h8, h4, h4', h40, h40', hall⟩ := check_facts p h
  obtain ⟨tos, id, ttl, proto, df, mf, off, src, dst, opt, data⟩ := p
  simp only at a1 a2 b1 b2 c1 c2 d1 d2 e1 e2 h8 h4 h4' h40 h40' hall
  unfold bytesP
  simp only
  obtain ⟨t, ht⟩ : ∃ t, tos.toNat = t := ⟨_, rfl⟩
  obtain ⟨i, hi⟩ : ∃ t, id.toNat = t := ⟨_, rfl⟩
  obtain ⟨tt, htt⟩ : ∃ t, ttl.toNat = t := ⟨_, rfl⟩
  obtain ⟨pr, hpr⟩ : ∃ t, proto.toNat = t := ⟨_, rfl⟩
  obtain ⟨o, ho⟩ : ∃ t, off.toNat / 8 = t := ⟨_, rfl⟩
  rw [ht, hi, htt, hpr, ho]
  have hl := headN_len t i tt pr o df mf src dst opt data h4 h4'
  have hlen : (bytesN t i tt pr o df mf src dst opt data).length = 20 + opt.length + data.length := by rw [bytes_headN, List.length_append, hl]
  have b0 : byF (bytesN t i tt pr o df mf src dst opt data) 0 = 64 + (5 + opt.length / 4) := by
    show (UInt8.ofNat (64 + (5 + opt.length / 4))).toNat = _
    rw [UInt8.toNat_ofNat']; omega
  have b2 : byF (bytesN t i tt pr o df mf src dst opt data) 2 = (20 + opt.length + data.length) / 256 := by
    show (UInt8.ofNat ((20 + opt.length + data.length) / 256)).toNat = _
    rw [UInt8.toNat_ofNat']; omega
  have b3 : byF (bytesN t i tt pr o df mf src dst opt data) 3 = (20 + opt.length + data.length) % 256 := by
    show (UInt8.ofNat ((20 + opt.length + data.length) % 256)).toNat = _
    rw [UInt8.toNat_ofNat']; omega
  refine ⟨hlen, ?_, ?_, ?_, ?_⟩
  · rw [hlen]
    unfold twoF
    rw [b2, b3]; omega
  · unfold headF
    rw [b0]; omega
  · rw [b0]; omega
  · rw [bytes_headN, List.take_append_of_le_length (by rw [hl]; omega), List.take_of_length_le (by rw [hl]; omega)]
    exact headN_sum t i tt pr o df mf src dst opt data h40'
theorem head_other (p : P4) (h : checkE p = 0) (k : Nat) (c : UInt8) (h1 : 1 ≤ k) (h2 : k < 20 + p.opt.length) (hk : k < (bytesP p).length) (hc : (bytesP p)[k] ≠ c) : parseE ((bytesP p).set k c) ≠ 0 := by
  intro h0
  obtain ⟨q1, q2, q3, q4, q5⟩ := bytesP_head p h
  obtain ⟨B, hB⟩ : ∃ B, bytesP p = B := ⟨_, rfl⟩
  simp only [hB] at q1 q2 q3 q4 q5 hk hc h0
  obtain ⟨-, f1, f2, f3, f4, f5, f6, f7⟩ := parse_facts _ h0
  have hhead : headF (B.set k c) = 20 + p.opt.length := by
    rw [← q3]
    unfold headF byF
    rw [List.getD_eq_getElem?_getD, List.getD_eq_getElem?_getD, List.getElem?_set_ne (by omega)]
  rw [hhead, List.take_set] at f7
  refine sum_other (B.take (20 + p.opt.length)) k c (by rw [List.length_take]; omega) ?_ q5 f7
  rw [List.getElem_take]
  exact hc

set_option maxRecDepth 100000 in
set_option maxHeartbeats 4000000 in
theorem lheads_any (p : P4) (dv : Value) (a : Int) (c : UInt8) (w : World) (hd : BRd w dv p.data) (hs : Sized4 p) (hg : ErrT w) :
    Calls Tryd.prog 7 #[.agg (p4cells p dv), .int .i64 a, .int .u8 (c.toNat : Int)] w fun e w' => e = .returned (.bool true) ∧ Keeps (fun _ => False) w w' := by
  obtain ⟨da, dc, rfl, hdc, hdm⟩ := hd.slice
  simp only [maxLen] at hdm
  have hk0 := (Keeps.refl (fun _ => False) w).alloc (.cells (p4cells p (.slice da p.data.length dc)) 25)
  have hr0 := RowAt.new w (p4cells p (.slice da p.data.length dc)) 25
  obtain ⟨c0, c1, c2, c3, c4, c5, c6, c7, c8, c9, c10⟩ := hr0.p4
  have hfew := few_any p (.slice da p.data.length dc) _ (hd.keeps hk0) hs
  generalize hw1 : w.alloc (.cells (p4cells p (.slice da p.data.length dc)) 25) = w1 at hk0 hr0 c0 c1 c2 c3 c4 c5 c6 c7 c8 c9 c10 hfew
  by_cases hF : fewB p = true
  · rw [hF] at hfew
    have HFEW := Lib.hid hfew
    obtain ⟨F1, F2⟩ := few_facts p hF
    clear hfew hF
    obtain ⟨b, hb⟩ : ∃ b, w.heap.size = b := ⟨_, rfl⟩
    rw [hb] at hr0 c0 c1 c2 c3 c4 c5 c6 c7 c8 c9 c10
    obtain ⟨E, hE⟩ : ∃ E, checkE p = E := ⟨_, rfl⟩
    go_enter Tryd.func7, Tryd.ntmps7
    go_wp2_with fail
    refine HFEW.out.mono ?_
    rintro e w2 ⟨rfl, hk2⟩
    have hkA := hk0.trans hk2 (fun _ _ h => h)
    have hr2 := hr0.keeps hk2 (fun h => h)
    have hd2 := hd.keeps hkA
    clear c0 c1 c2 c3 c4 c5 c6 c7 c8 c9 c10
    obtain ⟨c0, c1, c2, c3, c4, c5, c6, c7, c8, c9, c10⟩ := hr2.p4
    clear hk0 hr0 hk2 HFEW
    have hby := bytes_any p _ w2 (hg.keeps hkA) hd2 (by omega) (by omega)
    have HBY := Lib.hid hby
    clear hby
    go_wp2_with fail
    refine HBY.out.mono ?_
    rintro e w3 ⟨hk3, ⟨hz, v4, rfl, ho4⟩ | ⟨hz, rfl⟩⟩
    · clear HBY c0 c1 c2 c3 c4 c5 c6 c7 c8 c9 c10
      obtain ⟨B, ho4, ⟨q1, q2, q3, q4, q5⟩, hoth⟩ : ∃ B, BOwn w3 w2.heap.size v4 B ∧ (B.length = 20 + p.opt.length + p.data.length ∧ twoF B 2 = B.length ∧ headF B = 20 + p.opt.length ∧ byF B 0 / 16 = 4 ∧ sum16 (B.take (20 + p.opt.length)) = 65535) ∧
          (∀ (k : Nat) (c : UInt8) (_ : 1 ≤ k) (_ : k < 20 + p.opt.length) (hk : k < B.length) (_ : B[k] ≠ c), parseE (B.set k c) ≠ 0) := ⟨bytesP p, ho4, bytesP_head p hz, head_other p hz⟩
      have hkB := hkA.trans hk3 (fun _ _ h => h)
      have hr3 := hr2.keeps hk3 (fun h => h)
      obtain ⟨g, off, z4, rfl, hz4, hz4m, hge⟩ := BOwn.place ho4 (by omega)
      simp only [maxLen] at hz4m
      have c9 : w3.cell? ⟨b, 9, none⟩ = some (.string ⟨p.opt.toArray⟩) := hr3.p4.2.2.2.2.2.2.2.2.2.1
      have c10 : w3.cell? ⟨b, 10, none⟩ = some (.slice da p.data.length dc) := hr3.p4.2.2.2.2.2.2.2.2.2.2
      obtain ⟨x2, -, -⟩ := ho4.at 2 (by omega)
      obtain ⟨x3, -, -⟩ := ho4.at 3 (by omega)
      unfold twoF at q2
      rw [byF_at B 2 (by omega), byF_at B 3 (by omega)] at q2
      obtain ⟨X2, hX2⟩ : ∃ X, B[2].toNat = X := ⟨_, rfl⟩
      obtain ⟨X3, hX3⟩ : ∃ X, B[3].toNat = X := ⟨_, rfl⟩
      rw [hX2] at x2 q2
      rw [hX3] at x3 q2
      have y2 : X2 < 256 := by rw [← hX2]; exact B[2].toNat_lt
      have y3 : X3 < 256 := by rw [← hX3]; exact B[3].toNat_lt
      obtain ⟨h, hh⟩ : ∃ h, 20 + p.opt.length = h := ⟨_, rfl⟩
      rw [hh] at q1 q3 q5 hoth
      obtain ⟨n, hn⟩ : ∃ n, B.length = n := ⟨_, rfl⟩
      rw [hn] at q1 q2 hz4
      have i1 : (20 : Int) + (p.opt.length : Int) = (h : Int) := by omega
      have i2 : (h : Int) + (p.data.length : Int) = (n : Int) := by omega
      have i3 : (256 : Int) * (X2 : Int) + (X3 : Int) = (n : Int) := by omega
      have j1 := i64_fit (256 * (X2 : Int)) (by omega) (by omega)
      have j2 := i64_fit (n : Int) (by omega) (by omega)
      have hhn : (h : Int) ≤ (n : Int) := by omega
      have hh60 : (h : Int) ≤ 320 := by omega
      have hn3 : (3 : Int) < (n : Int) := by omega
      have hn2 : (2 : Int) < (n : Int) := by omega
      have hnz : (n : Int) ≤ (z4 : Int) := by omega
      have hhz : (h : Int) ≤ (z4 : Int) := by omega
      have htk := BAt.take (l := B) (by rw [hn]; exact (hn ▸ ho4.bat)) h (by omega)
      have hsum : ∀ m, Calls Tryd.prog 21 #[.slice (some ⟨g, off, none⟩) h z4] (w3.drewN m) fun e w' => e = .returned (.int .i64 65535) ∧ w3.drewN m = w' := fun m => by
        refine (sum_any _ (B.take h) _ (BRd.keeps (l := B.take h) (BAt.low htk) ((Keeps.refl _ _).drewN m))).mono ?_
        rintro e w' ⟨rfl, h⟩
        exact ⟨ret_int (by rw [q5]; rfl), h⟩
      have HQ5 := Lib.hid q5
      have HQ1 := Lib.hid q1
      have HH := Lib.hid hh
      have HN := Lib.hid hn
      rw [hn] at ho4 ⊢
      clear q1 q2 q3 q4 q5 hX2 hX3 hh hn htk
      go_wp2_with fail
      go_quiet ((with_reducible exact quiet_same (hsum _)))
      generalize hw4 : w3.drewN _ = w4
      have hk34 : Keeps (fun _ => False) w3 w4 := hw4 ▸ (Keeps.refl _ _).drewN _
      have ho5 := ho4.keeps hk34 (fun _ _ h => h)
      have hkC := hkB.trans hk34 (fun _ _ h => h)
      clear hsum i1 i2 i3 j1 j2 c9 c10 x2 x3 hw4 ho4 hkB hk34 hk3 hr3 hr2 hd2
      by_cases ha : a < 1
      · go_wp2_with (refine (awake_any _ (hg.keeps hkC)).mono ?_; rintro e w5 ⟨rfl, hk5⟩)
        go_ret
        exact ⟨rfl, hkC.trans hk5 (fun _ _ h => h)⟩
      · have ha' : 1 ≤ a := by omega
        by_cases hb' : (h : Int) ≤ a
        · go_wp2_with (refine (awake_any _ (hg.keeps hkC)).mono ?_; rintro e w5 ⟨rfl, hk5⟩)
          go_ret
          exact ⟨rfl, hkC.trans hk5 (fun _ _ h => h)⟩
        · have hb'' : a < (h : Int) := by omega
          obtain ⟨k, rfl⟩ : ∃ k : Nat, a = (k : Int) := ⟨a.toNat, by omega⟩
          have hkn : k < B.length := by have := HN.out; omega
          have hkn' : (k : Int) < (n : Int) := by omega
          have hk0' : (0 : Int) ≤ (k : Int) := by omega
          obtain ⟨t1, t2, t3⟩ := ho5.at k hkn
          have ho6 := t3 c
          have HOTH := hoth k c (by omega) (by omega) hkn
          obtain ⟨X, hX⟩ : ∃ X, B[k] = X := ⟨_, rfl⟩
          rw [hX] at t1 HOTH
          by_cases hceq : X = c
          · have z1 : ((X.toNat : Int) == (c.toNat : Int)) = true := by rw [hceq]; simp
            clear hceq t3 hX ho6 HOTH hoth
            go_wp2_with (refine (awake_any _ (hg.keeps hkC)).mono ?_; rintro e w5 ⟨rfl, hk5⟩)
            go_ret
            exact ⟨rfl, hkC.trans hk5 (fun _ _ h => h)⟩
          · have z1 : ((X.toNat : Int) == (c.toNat : Int)) = false := by
              rw [beq_eq_false_iff_ne]
              intro e
              exact hceq (UInt8.toNat_inj.1 (by omega))
            have HP := HOTH hceq
            obtain ⟨B', hB'⟩ : ∃ B', B.set k c = B' := ⟨_, rfl⟩
            rw [hB'] at ho6 HP
            have hl' : B'.length = n := by rw [← hB', List.length_set]; exact HN.out
            obtain ⟨E', hE'⟩ : ∃ E', parseE B' = E' := ⟨_, rfl⟩
            obtain ⟨P, hP⟩ : ∃ P, P4out B' = P := ⟨_, rfl⟩
            rw [hE'] at HP
            have z2 : (E' != 0) = true := bne_iff_ne.2 HP
            have hkD := hkC.setCell ⟨g, off + k, none⟩ (.int .u8 (c.toNat : Int)) (.inr (by have := hkA.size; show w.heap.size ≤ g; omega))
            have hpar := parse_any _ B' _ ho6.bat.low (hg.keeps hkD) (by rw [hl']; have := HQ1.out; omega)
            unfold Parsed at hpar
            rw [hE', hP] at hpar
            have HPAR := Lib.hid hpar
            clear hceq t3 hX HOTH hoth HP hE' hP hpar hB' ho6 ho5
            go_wp2_with (first | (refine HPAR.out.mono ?_; rintro e w5 ⟨d5, rfl, hd5, hk5⟩) | (refine wpList_store_whole rfl 25 (.tmp 10) (.tmp 86) rfl _ (p4cells P d5) rfl rfl 25 _ 11 (RowAt.new _ p4zc _) rfl rfl (by kernel_rfl) (p4_one _ _ (by obtain ⟨a, c, rfl, -, -⟩ := BAt.slice hd5; rfl)) (fun w6 hr6 hk6 => ?_)) | (refine (awake_any _ (hg.keeps (((hkD.trans hk5 (fun _ _ h => h)).alloc (.cells p4zc 25)).from hk6 (fun x e => by have := (hkD.trans hk5 (fun _ _ h => h)).size; omega)))).mono ?_; rintro e w7 ⟨rfl, hk7⟩))
            go_ret
            exact ⟨rfl, (((hkD.trans hk5 (fun _ _ h => h)).alloc (.cells p4zc 25)).from hk6 (fun x e => by have := (hkD.trans hk5 (fun _ _ h => h)).size; omega)).trans hk7 (fun _ _ h => h)⟩
    · rw [hE] at hz
      have y1 : (E == 0) = false := beq_eq_false_iff_ne.2 hz
      have y2 : (E != 0) = true := bne_iff_ne.2 hz
      rw [hE]
      clear HBY c0 c1 c2 c3 c4 c5 c6 c7 c8 c9 c10
      have hkB := hkA.trans hk3 (fun _ _ h => h)
      go_wp2_with (first | (go_at_call 13; refine (awake_any _ (hg.keeps hkB)).mono ?_; rintro e w4 ⟨rfl, hk4⟩; obtain ⟨c0, c1, c2, c3, c4, c5, c6, c7, c8, c9, c10⟩ := ((hr2.keeps hk3 (fun h => h)).keeps hk4 (fun h => h)).p4) | (go_at_call 19; refine (pcheck_any p _ _ (hg.keeps (hkB.trans hk4 (fun _ _ h => h))) (hd.keeps (hkB.trans hk4 (fun _ _ h => h))) (by omega) (by omega)).mono ?_; rintro e w5 ⟨rfl, hk5⟩; rw [hE]))
      go_ret
      exact ⟨rfl, (hkB.trans hk4 (fun _ _ h => h)).trans hk5 (fun _ _ h => h)⟩
  · have hF' : fewB p = false := by simpa using hF
    rw [hF'] at hfew
    have HFEW := Lib.hid hfew
    clear hfew hF hF'
    go_enter Tryd.func7, Tryd.ntmps7
    go_wp2_with (go_at_call 16; refine HFEW.out.mono ?_; rintro e w2 ⟨rfl, hk2⟩)
    go_ret
    exact ⟨rfl, hk0.trans hk2 (fun _ _ h => h)⟩
theorem lheads_row (p : P4) (dv : Value) (a : Int) (c : UInt8) (w : World) (hd : BAt w (· < w.heap.size) dv p.data) (hs : Sized4 p) (_ : (Lit.int .i64 a).wf = true) (hg : ErrT w) :
    Calls Tryd.prog 7 #[.agg (p4cells p dv), .int .i64 a, .int .u8 (c.toNat : Int)] w fun e w' => e = .returned (.bool true) ∧ Keeps (fun _ => False) w w' := lheads_any p dv a c w hd hs hg
end Go.Proofs.YtjcbbmlloadagaaDoor
