/- Words, walks and plain laws that the claim leans on, part 28. -/
import Derived.Test.YtjcbbmlloadagaaDoorM26

/-! Plain laws: what is laid down is read as itself; what is read is laid down as the same bytes, but its check. -/
namespace Go.Proofs.YtjcbbmlloadagaaDoor
set_option linter.unusedVariables false
set_option linter.unusedSimpArgs false
open Go.RowKit

theorem off_facts (o a b : Nat) (ho : o ≤ 8191) (ha : a = 0 ∨ a = 1) (hb : b = 0 ∨ b = 1) (Q : Nat) (hQ : o + a * 16384 + b * 8192 = Q) : Q ≤ 32767 ∧ Q % 8192 = o ∧ Q / 16384 % 2 = a ∧ Q / 8192 % 2 = b := by
  omega
theorem offN_is (df mf : Bool) (o : Nat) : offN df mf o = o + (if df then 1 else 0) * 16384 + (if mf then 1 else 0) * 8192 := by
  unfold offN
  cases df <;> cases mf <;> rfl
theorem off_facts' (df mf : Bool) (o Q : Nat) (ho : o ≤ 8191) (hQ : offN df mf o = Q) : Q ≤ 32767 ∧ Q % 8192 = o ∧ decide (Q / 16384 % 2 = 1) = df ∧ decide (Q / 8192 % 2 = 1) = mf := by
  rw [offN_is] at hQ
  obtain ⟨h1, h2, h3, h4⟩ := off_facts o (if df then 1 else 0) (if mf then 1 else 0) ho (by cases df <;> simp) (by cases mf <;> simp) Q hQ
  refine ⟨h1, h2, ?_, ?_⟩
  · rw [h3]; cases df <;> rfl
  · rw [h4]; cases mf <;> rfl
/-- What a packet's bytes are read as. -/
theorem back_parse (p : P4) (h : checkE p = 0) : parseE (bytesP p) = 0 ∧ parseP (bytesP p) = p := by
  obtain ⟨q1, q2, q3, q4, q5⟩ := bytesP_head p h
  obtain ⟨⟨a1, a2⟩, ⟨b1, b2'⟩, ⟨c1, c2⟩, ⟨d1, d2⟩, ⟨e1, e2⟩, h8, h4, h4', h40, h40', hall⟩ := check_facts p h
  obtain ⟨tos, id, ttl, proto, df, mf, off, src, dst, opt, data⟩ := p
  simp only at a1 a2 b1 b2' c1 c2 d1 d2 e1 e2 h8 h4 h4' h40 h40' hall q1 q3 q5
  obtain ⟨t, rfl⟩ : ∃ t : Nat, tos = t := ⟨tos.toNat, by omega⟩
  obtain ⟨i, rfl⟩ : ∃ t : Nat, id = t := ⟨id.toNat, by omega⟩
  obtain ⟨tt, rfl⟩ : ∃ t : Nat, ttl = t := ⟨ttl.toNat, by omega⟩
  obtain ⟨pr, rfl⟩ : ∃ t : Nat, proto = t := ⟨proto.toNat, by omega⟩
  obtain ⟨o, rfl⟩ : ∃ o : Nat, off = ((8 * o : Nat) : Int) := ⟨off.toNat / 8, by omega⟩
  obtain ⟨s0, s1, s2, s3, HS⟩ := four_of src h4
  obtain ⟨d0, d1', d2', d3, HD⟩ := four_of dst h4'
  have hB : bytesP ⟨t, i, tt, pr, df, mf, ((8 * o : Nat) : Int), src, dst, opt, data⟩ = bytesN t i tt pr o df mf src dst opt data := by
    unfold bytesP
    simp only [Int.toNat_natCast]
    rw [show 8 * o / 8 = o by omega]
  rw [hB] at q1 q2 q3 q4 q5 ⊢
  obtain ⟨c, hc⟩ : ∃ c, b2 (65535 - sum16 (hdN t i tt pr o df mf src dst opt data)) = c := ⟨_, rfl⟩
  obtain ⟨x, y, hxy⟩ : ∃ x y, c = [x, y] := ⟨_, _, hc.symm⟩
  obtain ⟨Q, hQ⟩ : ∃ Q, offN df mf o = Q := ⟨_, rfl⟩
  obtain ⟨n, hn⟩ : ∃ n, 20 + opt.length + data.length = n := ⟨_, rfl⟩
  have hBl : bytesN t i tt pr o df mf src dst opt data = [UInt8.ofNat (64 + (5 + opt.length / 4)), UInt8.ofNat t, UInt8.ofNat (n / 256), UInt8.ofNat (n % 256), UInt8.ofNat (i / 256), UInt8.ofNat (i % 256), UInt8.ofNat (Q / 256), UInt8.ofNat (Q % 256), UInt8.ofNat tt, UInt8.ofNat pr, x, y, s0, s1, s2, s3, d0, d1', d2', d3] ++ (opt ++ data) := by
    unfold bytesN
    rw [hc, hxy, HS.out, HD.out]
    unfold hd10 fr10
    rw [hQ, hn]
    simp
  obtain ⟨w1, w2, w3, w4⟩ := off_facts' df mf o Q (by omega) hQ
  have B : ∀ k ≤ 255, (UInt8.ofNat k).toNat = k := fun k hk => by rw [UInt8.toNat_ofNat']; omega
  rw [hBl] at q1 q2 q3 q4 q5 ⊢
  have f1 : byF ([UInt8.ofNat (64 + (5 + opt.length / 4)), UInt8.ofNat t, UInt8.ofNat (n / 256), UInt8.ofNat (n % 256), UInt8.ofNat (i / 256), UInt8.ofNat (i % 256), UInt8.ofNat (Q / 256), UInt8.ofNat (Q % 256), UInt8.ofNat tt, UInt8.ofNat pr, x, y, s0, s1, s2, s3, d0, d1', d2', d3] ++ (opt ++ data)) 1 = t := B t (by omega)
  have f4 : twoF ([UInt8.ofNat (64 + (5 + opt.length / 4)), UInt8.ofNat t, UInt8.ofNat (n / 256), UInt8.ofNat (n % 256), UInt8.ofNat (i / 256), UInt8.ofNat (i % 256), UInt8.ofNat (Q / 256), UInt8.ofNat (Q % 256), UInt8.ofNat tt, UInt8.ofNat pr, x, y, s0, s1, s2, s3, d0, d1', d2', d3] ++ (opt ++ data)) 4 = i := by
    show 256 * (UInt8.ofNat (i / 256)).toNat + (UInt8.ofNat (i % 256)).toNat = i
    rw [B _ (by omega), B _ (by omega)]; omega
  have f6 : twoF ([UInt8.ofNat (64 + (5 + opt.length / 4)), UInt8.ofNat t, UInt8.ofNat (n / 256), UInt8.ofNat (n % 256), UInt8.ofNat (i / 256), UInt8.ofNat (i % 256), UInt8.ofNat (Q / 256), UInt8.ofNat (Q % 256), UInt8.ofNat tt, UInt8.ofNat pr, x, y, s0, s1, s2, s3, d0, d1', d2', d3] ++ (opt ++ data)) 6 = Q := by
    show 256 * (UInt8.ofNat (Q / 256)).toNat + (UInt8.ofNat (Q % 256)).toNat = Q
    rw [B _ (by omega), B _ (by omega)]; omega
  have f6' : byF ([UInt8.ofNat (64 + (5 + opt.length / 4)), UInt8.ofNat t, UInt8.ofNat (n / 256), UInt8.ofNat (n % 256), UInt8.ofNat (i / 256), UInt8.ofNat (i % 256), UInt8.ofNat (Q / 256), UInt8.ofNat (Q % 256), UInt8.ofNat tt, UInt8.ofNat pr, x, y, s0, s1, s2, s3, d0, d1', d2', d3] ++ (opt ++ data)) 6 = Q / 256 := B _ (by omega)
  have f8 : byF ([UInt8.ofNat (64 + (5 + opt.length / 4)), UInt8.ofNat t, UInt8.ofNat (n / 256), UInt8.ofNat (n % 256), UInt8.ofNat (i / 256), UInt8.ofNat (i % 256), UInt8.ofNat (Q / 256), UInt8.ofNat (Q % 256), UInt8.ofNat tt, UInt8.ofNat pr, x, y, s0, s1, s2, s3, d0, d1', d2', d3] ++ (opt ++ data)) 8 = tt := B tt (by omega)
  have f9 : byF ([UInt8.ofNat (64 + (5 + opt.length / 4)), UInt8.ofNat t, UInt8.ofNat (n / 256), UInt8.ofNat (n % 256), UInt8.ofNat (i / 256), UInt8.ofNat (i % 256), UInt8.ofNat (Q / 256), UInt8.ofNat (Q % 256), UInt8.ofNat tt, UInt8.ofNat pr, x, y, s0, s1, s2, s3, d0, d1', d2', d3] ++ (opt ++ data)) 9 = pr := B pr (by omega)
  have g12 : (([UInt8.ofNat (64 + (5 + opt.length / 4)), UInt8.ofNat t, UInt8.ofNat (n / 256), UInt8.ofNat (n % 256), UInt8.ofNat (i / 256), UInt8.ofNat (i % 256), UInt8.ofNat (Q / 256), UInt8.ofNat (Q % 256), UInt8.ofNat tt, UInt8.ofNat pr, x, y, s0, s1, s2, s3, d0, d1', d2', d3] ++ (opt ++ data)).drop 12).take 4 = src := by rw [HS.out]; rfl
  have g16 : (([UInt8.ofNat (64 + (5 + opt.length / 4)), UInt8.ofNat t, UInt8.ofNat (n / 256), UInt8.ofNat (n % 256), UInt8.ofNat (i / 256), UInt8.ofNat (i % 256), UInt8.ofNat (Q / 256), UInt8.ofNat (Q % 256), UInt8.ofNat tt, UInt8.ofNat pr, x, y, s0, s1, s2, s3, d0, d1', d2', d3] ++ (opt ++ data)).drop 16).take 4 = dst := by rw [HD.out]; rfl
  have g20 : (([UInt8.ofNat (64 + (5 + opt.length / 4)), UInt8.ofNat t, UInt8.ofNat (n / 256), UInt8.ofNat (n % 256), UInt8.ofNat (i / 256), UInt8.ofNat (i % 256), UInt8.ofNat (Q / 256), UInt8.ofNat (Q % 256), UInt8.ofNat tt, UInt8.ofNat pr, x, y, s0, s1, s2, s3, d0, d1', d2', d3] ++ (opt ++ data)).drop 20) = opt ++ data := rfl
  obtain ⟨BB, hBB⟩ : ∃ BB, [UInt8.ofNat (64 + (5 + opt.length / 4)), UInt8.ofNat t, UInt8.ofNat (n / 256), UInt8.ofNat (n % 256), UInt8.ofNat (i / 256), UInt8.ofNat (i % 256), UInt8.ofNat (Q / 256), UInt8.ofNat (Q % 256), UInt8.ofNat tt, UInt8.ofNat pr, x, y, s0, s1, s2, s3, d0, d1', d2', d3] ++ (opt ++ data) = BB := ⟨_, rfl⟩
  rw [hBB] at q1 q2 q3 q4 q5 f1 f4 f6 f6' f8 f9 g12 g16 g20 ⊢
  have gh : BB.drop (20 + opt.length) = data := by
    rw [← List.drop_drop, g20]; simp
  refine ⟨?_, ?_⟩
  · unfold parseE
    rw [if_neg (by omega), if_neg (by rintro (h | h); exact h q4; omega), if_neg (by omega), if_neg (by rw [f6']; omega), if_neg (by rw [q3]; exact fun h => h q5)]
  · unfold parseP
    rw [f1, f4, f6, f8, f9, g12, g16, g20, q3, gh]
    rw [w3, w4]
    have e1 : ((Q : Nat) : Int) % 8192 * 8 = ((8 * o : Nat) : Int) := by omega
    have e2 : (opt ++ data).take (20 + opt.length - 20) = opt := by rw [Nat.add_sub_cancel_left]; simp
    rw [e1, e2]

theorem list20 {α : Type} (l : List α) (h : 20 ≤ l.length) : ∃ a0 a1 a2 a3 a4 a5 a6 a7 a8 a9 a10 a11 a12 a13 a14 a15 a16 a17 a18 a19 r, l = [a0, a1, a2, a3, a4, a5, a6, a7, a8, a9, a10, a11, a12, a13, a14, a15, a16, a17, a18, a19] ++ r := by
  have step : ∀ (l : List α) (n : Nat), n + 1 ≤ l.length → ∃ a r, l = a :: r ∧ n ≤ r.length := fun l n h => by
    cases l with
    | nil => simp at h
    | cons a r => exact ⟨a, r, rfl, by simpa using h⟩
  obtain ⟨a0, l0, rfl, h0⟩ := step l 19 h
  obtain ⟨a1, l1, rfl, h1⟩ := step l0 18 h0
  obtain ⟨a2, l2, rfl, h2⟩ := step l1 17 h1
  obtain ⟨a3, l3, rfl, h3⟩ := step l2 16 h2
  obtain ⟨a4, l4, rfl, h4⟩ := step l3 15 h3
  obtain ⟨a5, l5, rfl, h5⟩ := step l4 14 h4
  obtain ⟨a6, l6, rfl, h6⟩ := step l5 13 h5
  obtain ⟨a7, l7, rfl, h7⟩ := step l6 12 h6
  obtain ⟨a8, l8, rfl, h8⟩ := step l7 11 h7
  obtain ⟨a9, l9, rfl, h9⟩ := step l8 10 h8
  obtain ⟨a10, l10, rfl, h10⟩ := step l9 9 h9
  obtain ⟨a11, l11, rfl, h11⟩ := step l10 8 h10
  obtain ⟨a12, l12, rfl, h12⟩ := step l11 7 h11
  obtain ⟨a13, l13, rfl, h13⟩ := step l12 6 h12
  obtain ⟨a14, l14, rfl, h14⟩ := step l13 5 h13
  obtain ⟨a15, l15, rfl, h15⟩ := step l14 4 h14
  obtain ⟨a16, l16, rfl, h16⟩ := step l15 3 h15
  obtain ⟨a17, l17, rfl, h17⟩ := step l16 2 h16
  obtain ⟨a18, l18, rfl, h18⟩ := step l17 1 h17
  obtain ⟨a19, l19, rfl, h19⟩ := step l18 0 h18
  exact ⟨a0, a1, a2, a3, a4, a5, a6, a7, a8, a9, a10, a11, a12, a13, a14, a15, a16, a17, a18, a19, l19, rfl⟩
theorem ofNat_self (a : UInt8) (n : Nat) (h : n = a.toNat) : UInt8.ofNat n = a := by
  subst h
  exact UInt8.ofNat_toNat

theorem chk_num (T V C : Nat) (hT : 1 ≤ T) (hV : V ≤ 65535) (h : (T + V) % 65535 = 0) (hC : 65535 - ((T - 1) % 65535 + 1) = C) : V = C ∨ (V = 65535 ∧ C = 0) := by
  obtain ⟨k, N, hk, hN⟩ : ∃ k N, T = 65535 * k + N + 1 ∧ N < 65535 := ⟨(T - 1) / 65535, (T - 1) % 65535, by omega, by omega⟩
  have e1 : (T - 1) % 65535 = N := by
    rw [hk, Nat.add_sub_cancel]; omega
  rw [e1] at hC
  have e2 : (N + 1 + V) % 65535 = 0 := by
    rw [hk] at h; omega
  omega
theorem back_bytes (b : List UInt8) (h : parseE b = 0) (hbl : b.length ≤ 3000) : checkE (parseP b) = 0 ∧ ∃ x y, bytesP (parseP b) = (b.set 10 x).set 11 y ∧ ((x.toNat = byF b 10 ∧ y.toNat = byF b 11) ∨ (byF b 10 = 255 ∧ byF b 11 = 255 ∧ x.toNat = 0 ∧ y.toNat = 0)) := by
  obtain ⟨f1, f2, f3, f4, f5, f6, f7, f8⟩ := parse_facts b h
  obtain ⟨a0, a1, a2, a3, a4, a5, a6, a7, a8, a9, a10, a11, a12, a13, a14, a15, a16, a17, a18, a19, r, rfl⟩ := list20 b f1
  have m0 := a0.toNat_lt
  have m1 := a1.toNat_lt
  have m2 := a2.toNat_lt
  have m3 := a3.toNat_lt
  have m4 := a4.toNat_lt
  have m5 := a5.toNat_lt
  have m6 := a6.toNat_lt
  have m7 := a7.toNat_lt
  have m8 := a8.toNat_lt
  have m9 := a9.toNat_lt
  have m10 := a10.toNat_lt
  have m11 := a11.toNat_lt
  have f5' : a0.toNat / 16 = 4 := f5
  have f6' : 256 * a2.toNat + a3.toNat = 20 + r.length := by
    have e : ([a0, a1, a2, a3, a4, a5, a6, a7, a8, a9, a10, a11, a12, a13, a14, a15, a16, a17, a18, a19] ++ r).length = 20 + r.length := by simp; omega
    rw [e] at f6
    exact f6
  have f7' : a6.toNat < 128 := f7
  obtain ⟨H, hH⟩ : ∃ H, headF ([a0, a1, a2, a3, a4, a5, a6, a7, a8, a9, a10, a11, a12, a13, a14, a15, a16, a17, a18, a19] ++ r) = H := ⟨_, rfl⟩
  have hH' : 4 * (a0.toNat % 16) = H := hH
  rw [hH] at f2 f3 f4 f8
  have f3' : H ≤ 20 + r.length := by
    have e : ([a0, a1, a2, a3, a4, a5, a6, a7, a8, a9, a10, a11, a12, a13, a14, a15, a16, a17, a18, a19] ++ r).length = 20 + r.length := by simp; omega
    rw [e] at f3
    exact f3
  have hr3 : r.length ≤ 2980 := by simp at hbl; omega
  have hP : parseP ([a0, a1, a2, a3, a4, a5, a6, a7, a8, a9, a10, a11, a12, a13, a14, a15, a16, a17, a18, a19] ++ r) =
      ⟨a1.toNat, ((256 * a4.toNat + a5.toNat : Nat) : Int), a8.toNat, a9.toNat, decide ((256 * a6.toNat + a7.toNat) / 16384 % 2 = 1), decide ((256 * a6.toNat + a7.toNat) / 8192 % 2 = 1), ((256 * a6.toNat + a7.toNat : Nat) : Int) % 8192 * 8, [a12, a13, a14, a15], [a16, a17, a18, a19], r.take (H - 20), r.drop (H - 20)⟩ := by
    unfold parseP
    rw [hH]
    have e : ([a0, a1, a2, a3, a4, a5, a6, a7, a8, a9, a10, a11, a12, a13, a14, a15, a16, a17, a18, a19] ++ r).drop H = r.drop (H - 20) := by
      rw [show H = 20 + (H - 20) by omega, ← List.drop_drop]
      simp
    rw [e]
    rfl
  rw [hP]
  obtain ⟨opt, hopt⟩ : ∃ o, r.take (H - 20) = o := ⟨_, rfl⟩
  obtain ⟨data, hdata⟩ : ∃ o, r.drop (H - 20) = o := ⟨_, rfl⟩
  have hol : opt.length = H - 20 := by rw [← hopt, List.length_take]; omega
  have hdl : opt.length + data.length = r.length := by rw [← hopt, ← hdata, List.length_take, List.length_drop]; omega
  have hod : opt ++ data = r := by rw [← hopt, ← hdata, List.take_append_drop]
  rw [hopt, hdata]
  obtain ⟨Q, hQ⟩ : ∃ Q, 256 * a6.toNat + a7.toNat = Q := ⟨_, rfl⟩
  rw [hQ]
  have hQle : Q ≤ 32767 := by omega
  constructor
  · obtain ⟨P, hPP⟩ : ∃ P : P4, P = ⟨a1.toNat, ((256 * a4.toNat + a5.toNat : Nat) : Int), a8.toNat, a9.toNat, decide (Q / 16384 % 2 = 1), decide (Q / 8192 % 2 = 1), (Q : Int) % 8192 * 8, [a12, a13, a14, a15], [a16, a17, a18, a19], opt, data⟩ := ⟨_, rfl⟩
    rw [← hPP]
    have hn : numsOk P = true := by
      rw [hPP]
      unfold numsOk
      simp only [inAll, Bool.and_eq_true, decide_eq_true_eq]
      refine ⟨⟨by omega, by omega⟩, ⟨by omega, by omega⟩, ⟨by omega, by omega⟩, ⟨by omega, by omega⟩, ⟨by omega, by omega⟩, trivial⟩
    have ho : P.off.tmod 8 = 0 := by
      rw [hPP]
      simp only
      rw [Int.tmod_eq_emod_of_nonneg (by omega)]; omega
    have e1 : P.src.length = 4 := by rw [hPP]; rfl
    have e2 : P.dst.length = 4 := by rw [hPP]; rfl
    have e3 : P.opt.length = H - 20 := by rw [hPP]; exact hol
    have e4 : P.opt.length + P.data.length = r.length := by rw [hPP]; exact hdl
    unfold checkE
    rw [if_neg (by rintro (h | h); rw [hn] at h; cases h; exact h ho), if_neg (by rintro (h | h); exact h e1; exact h e2), if_neg (by rw [e3]; omega), if_neg (by omega)]
  · obtain ⟨C, hC⟩ : ∃ C, 65535 - sum16 (hdN a1.toNat (256 * a4.toNat + a5.toNat) a8.toNat a9.toNat (Q % 8192) (decide (Q / 16384 % 2 = 1)) (decide (Q / 8192 % 2 = 1)) [a12, a13, a14, a15] [a16, a17, a18, a19] opt data) = C := ⟨_, rfl⟩
    have hO : offN (decide (Q / 16384 % 2 = 1)) (decide (Q / 8192 % 2 = 1)) (Q % 8192) = Q := by
      rw [offN_is]
      have z1 : (if decide (Q / 16384 % 2 = 1) = true then 1 else 0) = Q / 16384 := by
        by_cases h : Q / 16384 % 2 = 1
        · rw [if_pos (decide_eq_true h)]; omega
        · rw [if_neg (by simpa using h)]; omega
      have z2 : (if decide (Q / 8192 % 2 = 1) = true then 1 else 0) = Q / 8192 % 2 := by
        by_cases h : Q / 8192 % 2 = 1
        · rw [if_pos (decide_eq_true h)]; omega
        · rw [if_neg (by simpa using h)]; omega
      rw [z1, z2]; omega
    have hD : hd10 a1.toNat (256 * a4.toNat + a5.toNat) a8.toNat a9.toNat (Q % 8192) (decide (Q / 16384 % 2 = 1)) (decide (Q / 8192 % 2 = 1)) opt data = [a0, a1, a2, a3, a4, a5, a6, a7, a8, a9] := by
      unfold hd10 fr10
      rw [hO, ofNat_self a0 _ (by omega), ofNat_self a1 _ rfl, ofNat_self a2 _ (by omega), ofNat_self a3 _ (by omega), ofNat_self a4 _ (by omega), ofNat_self a5 _ (by omega), ofNat_self a6 _ (by omega), ofNat_self a7 _ (by omega), ofNat_self a8 _ rfl, ofNat_self a9 _ rfl]
    have hT := sum16_norm (hdN a1.toNat (256 * a4.toNat + a5.toNat) a8.toNat a9.toNat (Q % 8192) (decide (Q / 16384 % 2 = 1)) (decide (Q / 8192 % 2 = 1)) [a12, a13, a14, a15] [a16, a17, a18, a19] opt data)
    have htk : ([a0, a1, a2, a3, a4, a5, a6, a7, a8, a9, a10, a11, a12, a13, a14, a15, a16, a17, a18, a19] ++ r).take H = [a0, a1, a2, a3, a4, a5, a6, a7, a8, a9, a10, a11, a12, a13, a14, a15, a16, a17, a18, a19] ++ opt := by
      rw [← hopt, show H = 20 + (H - 20) by omega, show 20 + (H - 20) - 20 = H - 20 by omega]
      have : ∀ (A r : List UInt8) (k : Nat), A.length = 20 → (A ++ r).take (20 + k) = A ++ r.take k := fun A r k h => by
        rw [← h, List.take_length_add_append]
      exact this _ r _ rfl
    rw [htk, sum16_full] at f8
    obtain ⟨T, hTe⟩ : ∃ T, tot (hdN a1.toNat (256 * a4.toNat + a5.toNat) a8.toNat a9.toNat (Q % 8192) (decide (Q / 16384 % 2 = 1)) (decide (Q / 8192 % 2 = 1)) [a12, a13, a14, a15] [a16, a17, a18, a19] opt data) = T := ⟨_, rfl⟩
    have hT2 : tot ([a0, a1, a2, a3, a4, a5, a6, a7, a8, a9, a10, a11, a12, a13, a14, a15, a16, a17, a18, a19] ++ opt) = T + (256 * a10.toNat + a11.toNat) := by
      rw [← hTe]
      unfold hdN
      rw [hD]
      simp only [List.cons_append, List.nil_append, tot]
      have z : (0 : UInt8).toNat = 0 := rfl
      rw [z]; omega
    have hT1 : 1 ≤ T := by
      rw [← hTe]
      unfold hdN
      rw [hD]
      simp only [List.cons_append, List.nil_append, tot]
      omega
    rw [hT2] at f8
    rw [hT, hTe] at hC
    unfold norm at hC
    rw [if_neg (by omega)] at hC
    refine ⟨UInt8.ofNat (C / 256), UInt8.ofNat (C % 256), ?_, ?_⟩
    · unfold bytesP
      simp only [Int.toNat_natCast]
      rw [show ((Q : Int) % 8192 * 8).toNat / 8 = Q % 8192 by omega]
      unfold bytesN
      rw [hT, hTe, hD, ← hod]
      unfold norm b2
      rw [if_neg (by omega), hC]
      simp
    · have n1 : (UInt8.ofNat (C / 256)).toNat = C / 256 := by rw [UInt8.toNat_ofNat']; omega
      have n2 : (UInt8.ofNat (C % 256)).toNat = C % 256 := by rw [UInt8.toNat_ofNat']; omega
      rw [n1, n2]
      show (C / 256 = a10.toNat ∧ C % 256 = a11.toNat) ∨ (a10.toNat = 255 ∧ a11.toNat = 255 ∧ C / 256 = 0 ∧ C % 256 = 0)
      rcases chk_num T (256 * a10.toNat + a11.toNat) C hT1 (by omega) f8.2 hC with g | g
      · exact .inl ⟨by omega, by omega⟩
      · exact .inr ⟨by omega, by omega, by omega, by omega⟩
end Go.Proofs.YtjcbbmlloadagaaDoor

/-! The law Ip4Back. -/
namespace Go.Proofs.YtjcbbmlloadagaaDoor
set_option linter.unusedVariables false
set_option linter.unusedSimpArgs false
open Go.RowKit

theorem bat_cell {w : World} {b off n c : Nat} {l : List UInt8} (h : BRd w (.slice (some ⟨b, off, none⟩) n c) l) (i : Nat) (hi : i < l.length) : w.cell? ⟨b, off + i, none⟩ = some (.int .u8 (byF l i : Int)) := h.cellF i hi
theorem p4zero_build : (.agg #[.int .i64 0, .int .i64 0, .int .i64 0, .int .i64 0, .bool false, .bool false, .int .i64 0, .string ⟨#[]⟩, .string ⟨#[]⟩, .string ⟨#[]⟩, .slice none 0 0] : Value) = .agg (p4cells p4zero (.slice none 0 0)) := rfl

set_option maxRecDepth 100000 in
set_option maxHeartbeats 4000000 in
/-- The second half: any bytes, read and laid down. -/
theorem lback_any (p : P4) (dv bv : Value) (l : List UInt8) (w : World) (hd : BRd w dv p.data) (hs : Sized4 p) (hb : BRd w bv l) (hg : ErrT w) :
    Calls Tryd.prog 4 #[.agg (p4cells p dv), bv] w fun e w' => e = .returned (.bool true) ∧ Keeps (fun _ => False) w w' := by
  obtain ⟨da, dc, rfl, hdc, hdm⟩ := hd.slice
  obtain ⟨ba, bc, rfl, hbc, hbm⟩ := hb.slice
  simp only [maxLen] at hdm hbm
  have hk0 := (Keeps.refl (fun _ => False) w).alloc (.cells (p4cells p (.slice da p.data.length dc)) 25)
  have hr0 := RowAt.new w (p4cells p (.slice da p.data.length dc)) 25
  obtain ⟨c0, c1, c2, c3, c4, c5, c6, c7, c8, c9, c10⟩ := hr0.p4
  have hfew := few_any p (.slice da p.data.length dc) _ (hd.keeps hk0) hs
  generalize hw1 : w.alloc (.cells (p4cells p (.slice da p.data.length dc)) 25) = w1 at hk0 hr0 c0 c1 c2 c3 c4 c5 c6 c7 c8 c9 c10 hfew
  by_cases hF : fewB p = true
  · rw [hF] at hfew
    have HFEW := Lib.hid hfew
    obtain ⟨F1, F2⟩ := few_facts p hF
    clear hfew hF
    by_cases hbig : 3000 < l.length
    · have hbig' : (3000 : Int) < (l.length : Int) := by omega
      go_enter Tryd.func4, Tryd.ntmps4
      go_wp2_with (go_at_call 16; refine HFEW.out.mono ?_; rintro e w2 ⟨rfl, hk2⟩)
      go_ret
      exact ⟨rfl, hk0.trans hk2 (fun _ _ h => h)⟩
    · have hbig' : (l.length : Int) ≤ 3000 := by omega
      obtain ⟨b, hbb⟩ : ∃ b, w.heap.size = b := ⟨_, rfl⟩
      rw [hbb] at hr0 c0 c1 c2 c3 c4 c5 c6 c7 c8 c9 c10
      obtain ⟨E, hE⟩ : ∃ E, checkE p = E := ⟨_, rfl⟩
      go_enter Tryd.func4, Tryd.ntmps4
      go_wp2_with fail
      refine HFEW.out.mono ?_
      rintro e w2 ⟨rfl, hk2⟩
      have hkA := hk0.trans hk2 (fun _ _ h => h)
      have hr2 := hr0.keeps hk2 (fun h => h)
      have hd2 := hd.keeps hkA
      clear c0 c1 c2 c3 c4 c5 c6 c7 c8 c9 c10
      obtain ⟨c0, c1, c2, c3, c4, c5, c6, c7, c8, c9, c10⟩ := hr2.p4
      clear hk0 hr0 hk2 HFEW
      have hby := bytes_any p _ w2 (hg.keeps hkA) hd2 (by omega) (by omega)
      have HBY := Lib.hid hby
      clear hby
      go_wp2_with fail
      refine HBY.out.mono ?_
      rintro e w3 ⟨hk3, hcase⟩
      have hkB := hkA.trans hk3 (fun _ _ h => h)
      have hr3 := hr2.keeps hk3 (fun h => h)
      have hd3 := hd2.keeps hk3
      clear HBY c0 c1 c2 c3 c4 c5 c6 c7 c8 c9 c10 hk3 hr2 hd2 hkA
      rcases hcase with ⟨hz, v4, rfl, ho4⟩ | ⟨hz, rfl⟩
      · obtain ⟨m1, -, -, -, -⟩ := bytesP_head p hz
        obtain ⟨p1, p2⟩ := back_parse p hz
        obtain rfl : E = 0 := hE.symm.trans hz
        obtain ⟨B, hB⟩ : ∃ B, bytesP p = B := ⟨_, rfl⟩
        rw [hB] at ho4 m1 p1 p2
        have hout : P4out B = p := by unfold P4out; rw [if_pos p1, p2]
        have ho4b : BRd w3 v4 B := ho4.bat.low
        obtain ⟨s4, z4, rfl, -, -⟩ := BAt.slice ho4b
        have hB3 : (B.length : Int) ≤ 200100 := by omega
        have hpar := parse_any _ B w3 ho4b (hg.keeps hkB) (by omega)
        have HPAR := Lib.hid hpar
        have HP1 := Lib.hid p1
        have HOUT := Lib.hid hout
        clear hpar m1 p1 p2 hB hz ho4 ho4b hout
        go_wp2_with fail
        refine HPAR.out.mono ?_
        rintro e w4 ⟨d4, rfl, hd4, hk4⟩
        rw [HP1.out, HOUT.out]
        rw [HOUT.out] at hd4
        clear HP1 HOUT HPAR
        obtain ⟨s6, z6, rfl, -, -⟩ := BAt.slice hd4
        obtain ⟨q, hq⟩ : ∃ q, w4.heap.size = q := ⟨_, rfl⟩
        have hgeq : w3.heap.size ≤ q := by have := hk4.size; omega
        obtain ⟨c0, c1, c2, c3, c4, c5, c6, c7, c8, c9, c10⟩ := (hr3.keeps hk4 (fun h => h)).p4
        go_wp2_with (refine wpList_store_whole rfl 25 (.tmp 7) (.tmp 33) rfl q (p4cells p (.slice s6 p.data.length z6)) rfl rfl 25 _ 11 (hq ▸ RowAt.new w4 p4zc _) rfl rfl (by kernel_rfl) (p4_one _ _ rfl) (fun w5 hr5 hk5 => ?_); obtain ⟨d0, d1, d2, d3, d4, d5, d6, d7, d8, d9, d10⟩ := hr5.p4; obtain ⟨e0, e1, e2, e3, e4, e5, e6, e7, e8, e9, e10⟩ := (hr3.keeps ((hk4.alloc (.cells p4zc 25)).from hk5 (fun b e => by omega)) (fun h => h)).p4; clear c0 c1 c2 c3 c4 c5 c6 c7 c8 c9 c10)
        have hk35 := (hk4.alloc (.cells p4zc 25)).from hk5 (fun b e => by omega)
        have hk45 : Keeps (fun _ => False) w4 w5 := ((Keeps.refl (fun _ => False) w4).alloc (.cells p4zc 25)).from hk5 (fun b e => by omega)
        refine (same4_any p (.slice da p.data.length dc) (.slice s6 p.data.length z6) w5 (hd3.keeps hk35) (hd4.keeps hk45)).mono ?_
        rintro e w6 ⟨rfl, hk6⟩
        have hkF := hkB.trans (hk35.trans hk6 (fun _ _ h => h)) (fun _ _ h => h)
        clear d0 d1 d2 d3 d4 d5 d6 d7 d8 d9 d10 e0 e1 e2 e3 e4 e5 e6 e7 e8 e9 e10 hk6 hk35 hk45 hk5 hr5 hk4 hq hgeq hd4 hr3 hd3
        go_wp2_with fail
        refine (parse_any _ l w6 (hb.keeps hkF) (hg.keeps hkF) (by omega)).mono ?_
        rintro e w5 ⟨d5, rfl, hd5, hk5⟩
        have hkC := hkF.trans hk5 (fun _ _ h => h)
        by_cases hp : parseE l = 0
        · have hout : P4out l = parseP l := by unfold P4out; rw [if_pos hp]
          obtain ⟨q1, x, y, q2, q3⟩ := back_bytes l hp (by omega)
          obtain ⟨r1, r2, r3, r4, -⟩ := parse_facts l hp
          rw [hp, hout]
          rw [hout] at hd5
          obtain ⟨P, hP, qf⟩ : ∃ P, parseP l = P ∧ P.opt.length ≤ 100000 ∧ P.data.length ≤ 100000 := ⟨_, rfl, by unfold parseP; simp only [List.length_take, List.length_drop]; omega, by unfold parseP; simp only [List.length_drop]; omega⟩
          rw [hP] at hd5 q1 q2 ⊢
          obtain ⟨s5, z5, rfl, -, -⟩ := BAt.slice hd5
          obtain ⟨q, hq⟩ : ∃ q, w5.heap.size = q := ⟨_, rfl⟩
          have hgeq : w.heap.size ≤ q := by have := hkC.size; omega
          go_wp2_with (refine wpList_store_whole rfl 25 (.tmp 9) (.tmp 46) rfl q (p4cells P (.slice s5 P.data.length z5)) rfl rfl 25 _ 11 (hq ▸ RowAt.new w5 p4zc _) rfl rfl (by kernel_rfl) (p4_one _ _ rfl) (fun w6 hr6 hk6 => ?_); obtain ⟨c0, c1, c2, c3, c4, c5, c6, c7, c8, c9, c10⟩ := hr6.p4)
          have hkD : Keeps (fun _ => False) w w6 := (hkC.alloc (.cells p4zc 25)).from hk6 (fun b e => by omega)
          have hk56 : Keeps (fun _ => False) w5 w6 := ((Keeps.refl (fun _ => False) w5).alloc (.cells p4zc 25)).from hk6 (fun b e => by omega)
          refine (bytes_any P _ w6 (hg.keeps hkD) (hd5.keeps hk56) qf.1 qf.2).mono ?_
          rintro e w7 ⟨hk7, ⟨-, v7, rfl, ho7⟩ | ⟨hne, -⟩⟩
          case inr => exact absurd q1 hne
          rw [q2] at ho7
          obtain ⟨D, hD⟩ : ∃ D, (l.set 10 x).set 11 y = D := ⟨_, rfl⟩
          have hDl : D.length = l.length := by rw [← hD, List.length_set, List.length_set]
          have hDo : ∀ i, i ≠ 10 → i ≠ 11 → byF D i = byF l i := fun i h1 h2 => by
            rw [← hD]
            unfold byF
            rw [List.getD_eq_getElem?_getD, List.getD_eq_getElem?_getD, List.getElem?_set_ne (by omega), List.getElem?_set_ne (by omega)]
          have hD10 : byF D 10 = x.toNat := by
            rw [← hD]
            unfold byF
            rw [List.getD_eq_getElem?_getD, List.getElem?_set_ne (by omega), List.getElem?_set_self (by omega)]; rfl
          have hD11 : byF D 11 = y.toNat := by
            rw [← hD]
            unfold byF
            rw [List.getD_eq_getElem?_getD, List.getElem?_set_self (by rw [List.length_set]; omega)]; rfl
          rw [hD] at ho7
          rw [← hD10, ← hD11] at q3
          have hkE := hkD.trans hk7 (fun _ _ h => h)
          have hrd : BRd w7 v7 D := ho7.bat.low
          have hbd := hb.keeps hkE
          obtain ⟨g7, o7, z7, rfl, -, -⟩ := BRd.at0 hrd (by omega)
          obtain ⟨gb, ob, zb, e, -, -⟩ := BRd.at0 hbd (by omega)
          simp only [Value.slice.injEq] at e
          obtain ⟨rfl, -, rfl⟩ := e
          have hDI : (D.length : Int) = (l.length : Int) := by omega
          have hl20 : (20 : Int) ≤ (l.length : Int) := by omega
          have HQ3 := Lib.hid q3
          have HDL := Lib.hid hDl
          rw [hDl] at hrd ⊢
          clear hD hD10 hD11 q2 q3 hDl hDI ho7 hr6 hk6 hk56 hkD hkC hd5 hk5 hk7 q1 hp hout c0 c1 c2 c3 c4 c5 c6 c7 c8 c9 c10 hq hP qf r2 r3 r4
          go_wp2
          go_loopw [13] (fun u13 wr => ∃ i : Nat, i ≤ l.length ∧ u13 = .int .i64 i ∧ Keeps (fun _ => False) w7 wr) (fun u13 _ => l.length - (intOf u13).toNat)
          case atStart => exact ⟨0, by omega, rfl, Keeps.refl _ _⟩
          case round =>
            obtain ⟨i, hi, rfl, hkw⟩ := hrel
            by_cases hlt : i < l.length
            · have hlt' : (i : Int) < (l.length : Int) := by omega
              have hi0 : (0 : Int) ≤ (i : Int) := by omega
              by_cases i10 : i = 10
              · subst i10
                go_wp2
                go_quiet (fail)
                go_wp2
                go_roundw
                case rel => exact ⟨11, by omega, rfl, hkw.drewN _⟩
                case measure => simp [intOf]; omega
              · by_cases i11 : i = 11
                · subst i11
                  go_wp2
                  go_quiet (fail)
                  go_wp2
                  go_roundw
                  case rel => exact ⟨12, by omega, rfl, hkw.drewN _⟩
                  case measure => simp [intOf]; omega
                · have k1 := hkw.cell (bat_cell hbd i hlt) (fun h => h)
                  have k2 := hkw.cell (bat_cell hrd i (by have := HDL.out; omega)) (fun h => h)
                  rw [hDo i i10 i11] at k2
                  obtain ⟨v, hv⟩ : ∃ v, byF l i = v := ⟨_, rfl⟩
                  rw [hv] at k1 k2
                  have j10 : ¬ (i : Int) = 10 := by omega
                  have j11 : ¬ (i : Int) = 11 := by omega
                  clear i10 i11 hv
                  go_wp2
                  go_quiet (fail)
                  go_wp2
                  go_roundw
                  case rel => exact ⟨i + 1, by omega, by go_num, hkw.drewN _⟩
                  case measure => simp [intOf]; omega
            · have hlt' : (l.length : Int) ≤ (i : Int) := by omega
              have k1 := hkw.cell (bat_cell hbd 10 (by omega)) (fun h => h)
              have k2 := hkw.cell (bat_cell hrd 10 (by have := HDL.out; omega)) (fun h => h)
              have k3 := hkw.cell (bat_cell hbd 11 (by omega)) (fun h => h)
              have k4 := hkw.cell (bat_cell hrd 11 (by have := HDL.out; omega)) (fun h => h)
              rcases HQ3.out with ⟨u1, u2⟩ | ⟨u1, u2, u3, u4⟩
              · rw [u1] at k2
                rw [u2] at k4
                clear u1 u2
                obtain ⟨v, hv⟩ : ∃ v, byF l 10 = v := ⟨_, rfl⟩
                obtain ⟨v', hv'⟩ : ∃ v, byF l 11 = v := ⟨_, rfl⟩
                rw [hv] at k1 k2
                rw [hv'] at k3 k4
                clear hv hv'
                go_wp2
                go_quiet (fail)
                go_wp2_with (refine (awake_any _ (hg.keeps (hkE.trans (hkw.drewN _) (fun _ _ h => h)))).mono ?_; rintro e w8 ⟨rfl, hk8⟩)
                go_ret
                exact ⟨rfl, (hkE.trans (hkw.drewN _) (fun _ _ h => h)).trans hk8 (fun _ _ h => h)⟩
              · rw [u1] at k1
                rw [u2] at k3
                rw [u3] at k2
                rw [u4] at k4
                clear u1 u2 u3 u4
                go_wp2
                go_quiet (fail)
                go_wp2_with (refine (awake_any _ (hg.keeps (hkE.trans (hkw.drewN _) (fun _ _ h => h)))).mono ?_; rintro e w8 ⟨rfl, hk8⟩; have g1 := hk8.cell k1 (fun h => h); have g2 := hk8.cell k2 (fun h => h); have g3 := hk8.cell k3 (fun h => h); have g4 := hk8.cell k4 (fun h => h))
                go_ret
                exact ⟨rfl, (hkE.trans (hkw.drewN _) (fun _ _ h => h)).trans hk8 (fun _ _ h => h)⟩
        · have hout : P4out l = p4zero := by unfold P4out; rw [if_neg hp]
          rw [hout]
          rw [hout] at hd5
          obtain ⟨E5, hE5⟩ : ∃ E5, parseE l = E5 := ⟨_, rfl⟩
          rw [hE5] at hp ⊢
          have y1 : (E5 == 0) = false := beq_eq_false_iff_ne.2 hp
          have y2 : (E5 != 0) = true := bne_iff_ne.2 hp
          obtain ⟨s5, z5, rfl, -, -⟩ := BAt.slice hd5
          obtain ⟨q, hq⟩ : ∃ q, w5.heap.size = q := ⟨_, rfl⟩
          have hgeq : w.heap.size ≤ q := by have := hkC.size; omega
          go_wp2_with (first | (refine wpList_store_whole rfl 25 (.tmp 9) (.tmp 46) rfl q (p4cells p4zero (.slice s5 p4zero.data.length z5)) rfl rfl 25 _ 11 (hq ▸ RowAt.new w5 p4zc _) rfl rfl (by kernel_rfl) (p4_one _ _ rfl) (fun w6 hr6 hk6 => ?_)) | (refine (awake_any _ (hg.keeps ((hkC.alloc (.cells p4zc 25)).from hk6 (fun b e => by omega)))).mono ?_; rintro e w7 ⟨rfl, hk7⟩; obtain ⟨c0, c1, c2, c3, c4, c5, c6, c7, c8, c9, c10⟩ := (hr6.keeps hk7 (fun h => h)).p4))
          have hk57 : Keeps (fun _ => False) w5 w7 := (((Keeps.refl (fun _ => False) w5).alloc (.cells p4zc 25)).from hk6 (fun b e => by omega)).trans hk7 (fun _ _ h => h)
          refine (same4_any p4zero (.slice s5 p4zero.data.length z5) (.slice none 0 0) w7 (hd5.keeps hk57) (BAt.nil _ _)).mono ?_
          rintro e w8 ⟨rfl, hk8⟩
          go_wp2
          go_ret
          exact ⟨rfl, (hkC.trans hk57 (fun _ _ h => h)).trans hk8 (fun _ _ h => h)⟩
      · rw [hE] at hz ⊢
        have y1 : (E == 0) = false := beq_eq_false_iff_ne.2 hz
        have y2 : (E != 0) = true := bne_iff_ne.2 hz
        clear hz
        go_wp2_with fail
        clear y1 y2
        refine (parse_any _ l w3 (hb.keeps hkB) (hg.keeps hkB) (by omega)).mono ?_
        rintro e w5 ⟨d5, rfl, hd5, hk5⟩
        have hkC := hkB.trans hk5 (fun _ _ h => h)
        by_cases hp : parseE l = 0
        · have hout : P4out l = parseP l := by unfold P4out; rw [if_pos hp]
          obtain ⟨q1, x, y, q2, q3⟩ := back_bytes l hp (by omega)
          obtain ⟨r1, r2, r3, r4, -⟩ := parse_facts l hp
          rw [hp, hout]
          rw [hout] at hd5
          obtain ⟨P, hP, qf⟩ : ∃ P, parseP l = P ∧ P.opt.length ≤ 100000 ∧ P.data.length ≤ 100000 := ⟨_, rfl, by unfold parseP; simp only [List.length_take, List.length_drop]; omega, by unfold parseP; simp only [List.length_drop]; omega⟩
          rw [hP] at hd5 q1 q2 ⊢
          obtain ⟨s5, z5, rfl, -, -⟩ := BAt.slice hd5
          obtain ⟨q, hq⟩ : ∃ q, w5.heap.size = q := ⟨_, rfl⟩
          have hgeq : w.heap.size ≤ q := by have := hkC.size; omega
          go_wp2_with (refine wpList_store_whole rfl 25 (.tmp 9) (.tmp 46) rfl q (p4cells P (.slice s5 P.data.length z5)) rfl rfl 25 _ 11 (hq ▸ RowAt.new w5 p4zc _) rfl rfl (by kernel_rfl) (p4_one _ _ rfl) (fun w6 hr6 hk6 => ?_); obtain ⟨c0, c1, c2, c3, c4, c5, c6, c7, c8, c9, c10⟩ := hr6.p4)
          have hkD : Keeps (fun _ => False) w w6 := (hkC.alloc (.cells p4zc 25)).from hk6 (fun b e => by omega)
          have hk56 : Keeps (fun _ => False) w5 w6 := ((Keeps.refl (fun _ => False) w5).alloc (.cells p4zc 25)).from hk6 (fun b e => by omega)
          refine (bytes_any P _ w6 (hg.keeps hkD) (hd5.keeps hk56) qf.1 qf.2).mono ?_
          rintro e w7 ⟨hk7, ⟨-, v7, rfl, ho7⟩ | ⟨hne, -⟩⟩
          case inr => exact absurd q1 hne
          rw [q2] at ho7
          obtain ⟨D, hD⟩ : ∃ D, (l.set 10 x).set 11 y = D := ⟨_, rfl⟩
          have hDl : D.length = l.length := by rw [← hD, List.length_set, List.length_set]
          have hDo : ∀ i, i ≠ 10 → i ≠ 11 → byF D i = byF l i := fun i h1 h2 => by
            rw [← hD]
            unfold byF
            rw [List.getD_eq_getElem?_getD, List.getD_eq_getElem?_getD, List.getElem?_set_ne (by omega), List.getElem?_set_ne (by omega)]
          have hD10 : byF D 10 = x.toNat := by
            rw [← hD]
            unfold byF
            rw [List.getD_eq_getElem?_getD, List.getElem?_set_ne (by omega), List.getElem?_set_self (by omega)]; rfl
          have hD11 : byF D 11 = y.toNat := by
            rw [← hD]
            unfold byF
            rw [List.getD_eq_getElem?_getD, List.getElem?_set_self (by rw [List.length_set]; omega)]; rfl
          rw [hD] at ho7
          rw [← hD10, ← hD11] at q3
          have hkE := hkD.trans hk7 (fun _ _ h => h)
          have hrd : BRd w7 v7 D := ho7.bat.low
          have hbd := hb.keeps hkE
          obtain ⟨g7, o7, z7, rfl, -, -⟩ := BRd.at0 hrd (by omega)
          obtain ⟨gb, ob, zb, e, -, -⟩ := BRd.at0 hbd (by omega)
          simp only [Value.slice.injEq] at e
          obtain ⟨rfl, -, rfl⟩ := e
          have hDI : (D.length : Int) = (l.length : Int) := by omega
          have hl20 : (20 : Int) ≤ (l.length : Int) := by omega
          have HQ3 := Lib.hid q3
          have HDL := Lib.hid hDl
          rw [hDl] at hrd ⊢
          clear hD hD10 hD11 q2 q3 hDl hDI ho7 hr6 hk6 hk56 hkD hkC hd5 hk5 hk7 q1 hp hout c0 c1 c2 c3 c4 c5 c6 c7 c8 c9 c10 hq hP qf r2 r3 r4
          go_wp2
          go_loopw [13] (fun u13 wr => ∃ i : Nat, i ≤ l.length ∧ u13 = .int .i64 i ∧ Keeps (fun _ => False) w7 wr) (fun u13 _ => l.length - (intOf u13).toNat)
          case atStart => exact ⟨0, by omega, rfl, Keeps.refl _ _⟩
          case round =>
            obtain ⟨i, hi, rfl, hkw⟩ := hrel
            by_cases hlt : i < l.length
            · have hlt' : (i : Int) < (l.length : Int) := by omega
              have hi0 : (0 : Int) ≤ (i : Int) := by omega
              by_cases i10 : i = 10
              · subst i10
                go_wp2
                go_quiet (fail)
                go_wp2
                go_roundw
                case rel => exact ⟨11, by omega, rfl, hkw.drewN _⟩
                case measure => simp [intOf]; omega
              · by_cases i11 : i = 11
                · subst i11
                  go_wp2
                  go_quiet (fail)
                  go_wp2
                  go_roundw
                  case rel => exact ⟨12, by omega, rfl, hkw.drewN _⟩
                  case measure => simp [intOf]; omega
                · have k1 := hkw.cell (bat_cell hbd i hlt) (fun h => h)
                  have k2 := hkw.cell (bat_cell hrd i (by have := HDL.out; omega)) (fun h => h)
                  rw [hDo i i10 i11] at k2
                  obtain ⟨v, hv⟩ : ∃ v, byF l i = v := ⟨_, rfl⟩
                  rw [hv] at k1 k2
                  have j10 : ¬ (i : Int) = 10 := by omega
                  have j11 : ¬ (i : Int) = 11 := by omega
                  clear i10 i11 hv
                  go_wp2
                  go_quiet (fail)
                  go_wp2
                  go_roundw
                  case rel => exact ⟨i + 1, by omega, by go_num, hkw.drewN _⟩
                  case measure => simp [intOf]; omega
            · have hlt' : (l.length : Int) ≤ (i : Int) := by omega
              have k1 := hkw.cell (bat_cell hbd 10 (by omega)) (fun h => h)
              have k2 := hkw.cell (bat_cell hrd 10 (by have := HDL.out; omega)) (fun h => h)
              have k3 := hkw.cell (bat_cell hbd 11 (by omega)) (fun h => h)
              have k4 := hkw.cell (bat_cell hrd 11 (by have := HDL.out; omega)) (fun h => h)
              rcases HQ3.out with ⟨u1, u2⟩ | ⟨u1, u2, u3, u4⟩
              · rw [u1] at k2
                rw [u2] at k4
                clear u1 u2
                obtain ⟨v, hv⟩ : ∃ v, byF l 10 = v := ⟨_, rfl⟩
                obtain ⟨v', hv'⟩ : ∃ v, byF l 11 = v := ⟨_, rfl⟩
                rw [hv] at k1 k2
                rw [hv'] at k3 k4
                clear hv hv'
                go_wp2
                go_quiet (fail)
                go_wp2_with (refine (awake_any _ (hg.keeps (hkE.trans (hkw.drewN _) (fun _ _ h => h)))).mono ?_; rintro e w8 ⟨rfl, hk8⟩)
                go_ret
                exact ⟨rfl, (hkE.trans (hkw.drewN _) (fun _ _ h => h)).trans hk8 (fun _ _ h => h)⟩
              · rw [u1] at k1
                rw [u2] at k3
                rw [u3] at k2
                rw [u4] at k4
                clear u1 u2 u3 u4
                go_wp2
                go_quiet (fail)
                go_wp2_with (refine (awake_any _ (hg.keeps (hkE.trans (hkw.drewN _) (fun _ _ h => h)))).mono ?_; rintro e w8 ⟨rfl, hk8⟩; have g1 := hk8.cell k1 (fun h => h); have g2 := hk8.cell k2 (fun h => h); have g3 := hk8.cell k3 (fun h => h); have g4 := hk8.cell k4 (fun h => h))
                go_ret
                exact ⟨rfl, (hkE.trans (hkw.drewN _) (fun _ _ h => h)).trans hk8 (fun _ _ h => h)⟩
        · have hout : P4out l = p4zero := by unfold P4out; rw [if_neg hp]
          rw [hout]
          rw [hout] at hd5
          obtain ⟨E5, hE5⟩ : ∃ E5, parseE l = E5 := ⟨_, rfl⟩
          rw [hE5] at hp ⊢
          have y1 : (E5 == 0) = false := beq_eq_false_iff_ne.2 hp
          have y2 : (E5 != 0) = true := bne_iff_ne.2 hp
          obtain ⟨s5, z5, rfl, -, -⟩ := BAt.slice hd5
          obtain ⟨q, hq⟩ : ∃ q, w5.heap.size = q := ⟨_, rfl⟩
          have hgeq : w.heap.size ≤ q := by have := hkC.size; omega
          go_wp2_with (first | (refine wpList_store_whole rfl 25 (.tmp 9) (.tmp 46) rfl q (p4cells p4zero (.slice s5 p4zero.data.length z5)) rfl rfl 25 _ 11 (hq ▸ RowAt.new w5 p4zc _) rfl rfl (by kernel_rfl) (p4_one _ _ rfl) (fun w6 hr6 hk6 => ?_)) | (refine (awake_any _ (hg.keeps ((hkC.alloc (.cells p4zc 25)).from hk6 (fun b e => by omega)))).mono ?_; rintro e w7 ⟨rfl, hk7⟩; obtain ⟨c0, c1, c2, c3, c4, c5, c6, c7, c8, c9, c10⟩ := (hr6.keeps hk7 (fun h => h)).p4))
          have hk57 : Keeps (fun _ => False) w5 w7 := (((Keeps.refl (fun _ => False) w5).alloc (.cells p4zc 25)).from hk6 (fun b e => by omega)).trans hk7 (fun _ _ h => h)
          refine (same4_any p4zero (.slice s5 p4zero.data.length z5) (.slice none 0 0) w7 (hd5.keeps hk57) (BAt.nil _ _)).mono ?_
          rintro e w8 ⟨rfl, hk8⟩
          go_wp2
          go_ret
          exact ⟨rfl, (hkC.trans hk57 (fun _ _ h => h)).trans hk8 (fun _ _ h => h)⟩
  · have hF' : fewB p = false := by simpa using hF
    rw [hF'] at hfew
    have HFEW := Lib.hid hfew
    clear hfew hF hF'
    go_enter Tryd.func4, Tryd.ntmps4
    go_wp2_with (go_at_call 16; refine HFEW.out.mono ?_; rintro e w2 ⟨rfl, hk2⟩)
    go_ret
    exact ⟨rfl, hk0.trans hk2 (fun _ _ h => h)⟩
theorem lback_row (p : P4) (dv bv : Value) (l : List UInt8) (w : World) (hd : BAt w (· < w.heap.size) dv p.data) (hs : Sized4 p) (hb : BAt w (· < w.heap.size) bv l) (hg : ErrT w) :
    Calls Tryd.prog 4 #[.agg (p4cells p dv), bv] w fun e w' => e = .returned (.bool true) ∧ Keeps (fun _ => False) w w' := lback_any p dv bv l w hd hs hb hg
end Go.Proofs.YtjcbbmlloadagaaDoor
