/- Words, walks and plain laws that the claim leans on, part 36. -/
import Derived.Test.YtekaoknpjpbjgaaDoorM5
import Derived.Test.YtekaoknpjpbjgaaDoorM7
import Derived.Test.YtekaoknpjpbjgaaDoorM17
import Derived.Test.YtekaoknpjpbjgaaDoorM18
import Derived.Test.YtekaoknpjpbjgaaDoorM23
import Derived.Test.YtekaoknpjpbjgaaDoorM35

/-! The reference's AES on numbers: Times, inverse, Box. -/
namespace Go.Proofs.YtekaoknpjpbjgaaDoor
set_option linter.unusedVariables false
set_option linter.unusedSimpArgs false
open Go.RowKit

theorem x255 (a b : Nat) (ha : a ≤ 255) (hb : b ≤ 255) : a ^^^ b ≤ 255 := by
  have := Nat.xor_lt_two_pow (n := 8) (show a < 2 ^ 8 by omega) (show b < 2 ^ 8 by omega)
  omega
set_option maxRecDepth 100000 in
theorem x283_all : (List.range 256).all (fun k => decide ((2 * (128 + k) ^^^ 283) ≤ 255 ∨ 128 ≤ k)) = true := by rfl
theorem x283 (x : Nat) (h1 : x ≤ 255) (h2 : 255 < 2 * x) : 2 * x ^^^ 283 ≤ 255 := by
  have h := List.all_eq_true.1 x283_all (x - 128) (List.mem_range.2 (by omega))
  rw [show 128 + (x - 128) = x by omega] at h
  rcases of_decide_eq_true h with h | h
  · exact h
  · omega
theorem timesN_le : ∀ (k n x y : Nat), n ≤ 255 → x ≤ 255 → timesN k n x y ≤ 255
  | 0, _, _, _, h, _ => h
  | k + 1, n, x, y, h, hx => by
    unfold timesN
    refine timesN_le k _ _ _ ?_ ?_
    · split
      · exact x255 _ _ h hx
      · exact h
    · split
      · exact x283 _ hx (by omega)
      · omega
theorem tN_le (x y : Nat) (hx : x ≤ 255) : tN x y ≤ 255 := timesN_le 8 0 x y (by omega) hx

set_option maxRecDepth 100000 in
set_option maxHeartbeats 1000000 in
theorem rtimes_any (x y : Nat) (w : World) (hx : x ≤ 255) (hy : y ≤ 255) : Calls Tryd.prog 69 #[.int .i64 x, .int .i64 y] w fun e w' => e = .returned (.int .i64 (tN x y : Nat)) ∧ w = w' := by
  obtain ⟨T, hT⟩ : ∃ T, timesN 8 0 x y = T := ⟨_, rfl⟩
  rw [show tN x y = T from hT]
  have h0 : timesN (8 - 0) 0 x y = T := hT
  have HT0 := Lib.hid h0
  clear hT h0
  go_enter Tryd.func69, Tryd.ntmps69
  go_wp2
  go_loop [0, 1, 5, 6] (fun u0 u1 u5 u6 => ∃ k n a b : Nat, k ≤ 8 ∧ n ≤ 255 ∧ a ≤ 255 ∧ b ≤ 255 ∧ timesN (8 - k) n a b = T ∧ u0 = .int .i64 a ∧ u1 = .int .i64 b ∧ u5 = .int .i64 n ∧ u6 = .int .i64 k) (fun _ _ _ u6 => 8 - (intOf u6).toNat)
  case atStart => exact ⟨0, 0, x, y, by omega, by omega, hx, hy, HT0.out, rfl, rfl, rfl, rfl⟩
  case round =>
    obtain ⟨k, n, a, b, hk, hn, ha, hb, hF, rfl, rfl, rfl, rfl⟩ := hrel
    clear HT0
    by_cases hlt : k < 8
    · have hstep : timesN (8 - k) n a b = timesN (8 - (k + 1)) (if b % 2 = 1 then n ^^^ a else n) (if 2 * a > 255 then 2 * a ^^^ 283 else 2 * a) (b / 2) := by
        rw [show 8 - k = (8 - (k + 1)) + 1 by omega]
        rfl
      rw [hF] at hstep
      have hm : (b : Int).tmod 2 = (b : Int) % 2 := Int.tmod_eq_emod_of_nonneg (by omega)
      obtain ⟨B2, hB2⟩ : ∃ B2, b / 2 = B2 := ⟨_, rfl⟩
      have hbd : (b : Int) / 2 = (B2 : Int) := by omega
      have hd : (b : Int).tdiv 2 = (B2 : Int) := by rw [Int.tdiv_eq_ediv_of_nonneg (by omega)]; exact hbd
      have hdw : IntKind.i64.wrap ((b : Int).tdiv 2) = (B2 : Int) := by rw [hd]; exact i64_f _ (by omega) (by omega)
      have hB : B2 ≤ 255 := by omega
      rw [hB2] at hstep
      have hx1 := i64_xor_nat n a (by omega) (by omega)
      have hx2 := i64_xor_nat (2 * a) 283 (by omega) (by omega)
      rw [show ((2 * a : Nat) : Int) = 2 * (a : Int) by omega, show ((283 : Nat) : Int) = 283 from rfl] at hx2
      have c1 := x255 n a hn ha
      by_cases hb1 : b % 2 = 1 <;> by_cases ha1 : 2 * a > 255
      · have hbI : (b : Int) % 2 = 1 := by omega
        have haI : (255 : Int) < 2 * (a : Int) := by omega
        rw [if_pos hb1, if_pos ha1] at hstep
        have c2 := x283 a ha ha1
        have HS := Lib.hid (And.intro hstep (And.intro c1 c2))
        generalize 2 * a ^^^ 283 = A2 at *
        generalize n ^^^ a = N2 at *
        clear hstep c1 c2 hF
        go_wp2
        go_round
        case rel => exact ⟨k + 1, N2, A2, B2, by omega, HS.out.2.1, HS.out.2.2, hB, HS.out.1.symm, rfl, rfl, rfl, by go_num⟩
        case measure => simp [intOf]; omega
      · have hbI : (b : Int) % 2 = 1 := by omega
        have haI : ¬ (255 : Int) < 2 * (a : Int) := by omega
        rw [if_pos hb1, if_neg ha1] at hstep
        have HS := Lib.hid (And.intro hstep c1)
        generalize n ^^^ a = N2 at *
        clear hstep c1 hF
        go_wp2
        go_round
        case rel => exact ⟨k + 1, N2, 2 * a, B2, by omega, HS.out.2, by omega, hB, HS.out.1.symm, by go_num, rfl, rfl, by go_num⟩
        case measure => simp [intOf]; omega
      · have hbI : ¬ (b : Int) % 2 = 1 := by omega
        have haI : (255 : Int) < 2 * (a : Int) := by omega
        rw [if_neg hb1, if_pos ha1] at hstep
        have c2 := x283 a ha ha1
        have HS := Lib.hid (And.intro hstep c2)
        generalize 2 * a ^^^ 283 = A2 at *
        clear hstep c1 c2 hF
        go_wp2
        go_round
        case rel => exact ⟨k + 1, n, A2, B2, by omega, hn, HS.out.2, hB, HS.out.1.symm, rfl, rfl, rfl, by go_num⟩
        case measure => simp [intOf]; omega
      · have hbI : ¬ (b : Int) % 2 = 1 := by omega
        have haI : ¬ (255 : Int) < 2 * (a : Int) := by omega
        rw [if_neg hb1, if_neg ha1] at hstep
        have HS := Lib.hid hstep
        clear hstep c1 hF
        go_wp2
        go_round
        case rel => exact ⟨k + 1, n, 2 * a, B2, by omega, hn, by omega, hB, HS.out.symm, by go_num, rfl, rfl, by go_num⟩
        case measure => simp [intOf]; omega
    · obtain rfl : k = 8 := by omega
      have hF' : n = T := hF
      subst hF'
      clear hF
      go_wp2
      go_ret
      exact ⟨rfl, rfl⟩
end Go.Proofs.YtekaoknpjpbjgaaDoor

/-! The reference's inverse, Box, Table; make of ints; rows of ints that are bytes. -/
namespace Go.Proofs.YtekaoknpjpbjgaaDoor
set_option linter.unusedVariables false
set_option linter.unusedSimpArgs false
open Go.RowKit

theorem invF_le : ∀ (k n p : Nat), n ≤ 255 → p ≤ 255 → invF k n p ≤ 255
  | 0, _, _, h, _ => h
  | k + 1, n, p, h, hp => invF_le k _ _ (tN_le _ _ h) (tN_le _ _ hp)
theorem invN_le (x : Nat) (hx : x ≤ 255) : invN x ≤ 255 := by
  unfold invN
  split
  · omega
  · exact invF_le 7 1 x (by omega) hx
set_option maxRecDepth 100000 in
set_option maxHeartbeats 1000000 in
theorem rinv_any (x : Nat) (w : World) (hx : x ≤ 255) : Calls Tryd.prog 84 #[.int .i64 x] w fun e w' => e = .returned (.int .i64 (invN x : Nat)) ∧ w = w' := by
  obtain ⟨R, hR⟩ : ∃ R, invF 7 1 x = R := ⟨_, rfl⟩
  have hI : invN x = if x = 0 then 0 else R := by unfold invN; rw [hR]
  have HI := Lib.hid hI
  have h0 : invF (8 - 1) 1 x = R := hR
  have HR0 := Lib.hid h0
  have HT := Lib.hid (fun (a b : Nat) (w : World) (ha : a ≤ 255) (hb : b ≤ 255) => rtimes_any a b w ha hb)
  clear hR h0 hI
  go_enter Tryd.func84, Tryd.ntmps84
  go_wp2
  go_loop [3, 4, 5] (fun u3 u4 u5 => ∃ k n p : Nat, 1 ≤ k ∧ k ≤ 8 ∧ n ≤ 255 ∧ p ≤ 255 ∧ invF (8 - k) n p = R ∧ u3 = .int .i64 n ∧ u4 = .int .i64 p ∧ u5 = .int .i64 k) (fun _ _ u5 => 8 - (intOf u5).toNat)
  case atStart => exact ⟨1, 1, x, by omega, by omega, by omega, hx, HR0.out, rfl, rfl, rfl⟩
  case round =>
    obtain ⟨k, n, p, hk1, hk, hn, hp, hF, rfl, rfl, rfl⟩ := hrel
    clear HR0
    by_cases hlt : k < 8
    · have hstep : invF (8 - k) n p = invF (8 - (k + 1)) (tN n (tN p p)) (tN p p) := by
        rw [show 8 - k = (8 - (k + 1)) + 1 by omega]
        rfl
      rw [hF] at hstep
      have hp2 := tN_le p p hp
      have H1 := Lib.hid (HT.out p p w hp hp)
      obtain ⟨q, hq⟩ : ∃ q, tN p p = q := ⟨_, rfl⟩
      rw [hq] at hstep hp2 H1
      have hn2 := tN_le n q hn
      have H2 := Lib.hid (HT.out n q w hn hp2)
      obtain ⟨m, hm⟩ : ∃ m, tN n q = m := ⟨_, rfl⟩
      rw [hm] at hstep hn2 H2
      have HS := Lib.hid hstep
      clear hstep hq hm hF
      go_wp2_with fail
      refine H1.out.mono ?_
      rintro e w1 ⟨rfl, rfl⟩
      go_wp2_with fail
      refine H2.out.mono ?_
      rintro e w1 ⟨rfl, rfl⟩
      go_wp2
      go_round
      case rel => exact ⟨k + 1, m, q, by omega, by omega, hn2, hp2, HS.out.symm, rfl, rfl, by go_num⟩
      case measure => simp [intOf]; omega
    · obtain rfl : k = 8 := by omega
      have hF' : n = R := hF
      subst hF'
      clear hF
      by_cases h0 : x = 0
      · have hz : (x : Int) = 0 := by omega
        go_wp2
        go_ret
        exact ⟨ret_int (by have h9 := HI.out; rw [if_pos h0, h0] at h9; rw [h9]; rfl), rfl⟩
      · have hz : ¬ (x : Int) = 0 := by omega
        go_wp2
        go_ret
        exact ⟨ret_int (by rw [HI.out, if_neg h0]), rfl⟩

theorem rot_le (b : Nat) (h : b ≤ 255) : b * 2 % 256 + b / 128 ≤ 255 := by omega
set_option maxRecDepth 100000 in
set_option maxHeartbeats 1000000 in
theorem rbox_any (x : Nat) (w : World) (hx : x ≤ 255) : Calls Tryd.prog 70 #[.int .i64 x] w fun e w' => e = .returned (.int .i64 (boxN x : Nat)) ∧ w = w' := by
  have hi := invN_le x hx
  have HI := Lib.hid (rinv_any x w hx)
  obtain ⟨R, hR⟩ : ∃ R, boxF 4 (invN x ^^^ 99) (invN x) = R := ⟨_, rfl⟩
  rw [show boxN x = R from hR]
  have h0 : boxF (5 - 1) (invN x ^^^ 99) (invN x) = R := hR
  have hx1 := i64_xor_nat (invN x) 99 (by omega) (by omega)
  rw [show ((99 : Nat) : Int) = 99 from rfl] at hx1
  have hx2 := x255 (invN x) 99 hi (by omega)
  generalize invN x = v at *
  obtain ⟨n0, hn0⟩ : ∃ n0, v ^^^ 99 = n0 := ⟨_, rfl⟩
  rw [hn0] at h0 hx1 hx2
  have H0 := Lib.hid h0
  clear hR h0 hn0
  go_enter Tryd.func70, Tryd.ntmps70
  go_wp2_with fail
  refine HI.out.mono ?_
  rintro e w1 ⟨rfl, rfl⟩
  go_wp2
  clear hx1
  go_loop [3, 4, 5] (fun u3 u4 u5 => ∃ k n b : Nat, 1 ≤ k ∧ k ≤ 5 ∧ n ≤ 255 ∧ b ≤ 255 ∧ boxF (5 - k) n b = R ∧ u3 = .int .i64 b ∧ u4 = .int .i64 n ∧ u5 = .int .i64 k) (fun _ _ u5 => 5 - (intOf u5).toNat)
  case atStart => exact ⟨1, n0, v, by omega, by omega, hx2, hi, H0.out, rfl, rfl, rfl⟩
  case round =>
    obtain ⟨k, n, b, hk1, hk, hn, hb, hF, rfl, rfl, rfl⟩ := hrel
    clear H0
    by_cases hlt : k ≤ 4
    · have hstep : boxF (5 - k) n b = boxF (5 - (k + 1)) (n ^^^ (b * 2 % 256 + b / 128)) (b * 2 % 256 + b / 128) := by
        rw [show 5 - k = (5 - (k + 1)) + 1 by omega]
        rfl
      rw [hF] at hstep
      have hr := rot_le b hb
      obtain ⟨C, hC⟩ : ∃ C, b / 128 = C := ⟨_, rfl⟩
      obtain ⟨E, hE⟩ : ∃ E, b * 2 % 256 = E := ⟨_, rfl⟩
      have g1 : ((b : Int) * 2).tmod 256 = (E : Int) := by rw [Int.tmod_eq_emod_of_nonneg (by omega)]; omega
      have g2 : (b : Int).tdiv 128 = (C : Int) := by rw [Int.tdiv_eq_ediv_of_nonneg (by omega)]; omega
      have g3 : IntKind.i64.wrap ((b : Int).tdiv 128) = (C : Int) := by rw [g2]; exact i64_f _ (by omega) (by omega)
      have g4 : (b : Int) * 2 % 256 = (E : Int) := by omega
      rw [hC, hE] at hstep hr
      obtain ⟨q, hq⟩ : ∃ q, E + C = q := ⟨_, rfl⟩
      rw [hq] at hstep hr
      have g5 : (E : Int) + (C : Int) = (q : Int) := by omega
      have g6 := i64_xor_nat n q (by omega) (by omega)
      have hx3 := x255 n q hn hr
      obtain ⟨m, hm⟩ : ∃ m, n ^^^ q = m := ⟨_, rfl⟩
      rw [hm] at hstep g6 hx3
      have HS := Lib.hid hstep
      have bE : E ≤ 255 := by omega
      have bC : C ≤ 255 := by omega
      clear hstep hq hm hF hC hE
      go_wp2
      go_round
      case rel => exact ⟨k + 1, m, q, by omega, by omega, hx3, hr, HS.out.symm, rfl, rfl, by go_num⟩
      case measure => simp [intOf]; omega
    · obtain rfl : k = 5 := by omega
      have hF' : n = R := hF
      subst hF'
      clear hF
      go_wp2
      go_ret
      exact ⟨rfl, rfl⟩
end Go.Proofs.YtekaoknpjpbjgaaDoor

/-! Rows of ints that are bytes; the reference's Table, with. -/
namespace Go.Proofs.YtekaoknpjpbjgaaDoor
set_option linter.unusedVariables false
set_option linter.unusedSimpArgs false
open Go.RowKit

def zof (l : List UInt8) : List Int := l.map fun x => (x.toNat : Int)
theorem zof_len (l : List UInt8) : (zof l).length = l.length := List.length_map _
theorem zof_set (l : List UInt8) (i : Nat) (x : UInt8) : (zof l).set i (x.toNat : Int) = zof (l.set i x) := by unfold zof; rw [List.map_set]
theorem zof_get (l : List UInt8) (i : Nat) (h : i < (zof l).length) : (zof l)[i] = ((at8 l i).toNat : Int) := by
  have h' : i < l.length := by rwa [zof_len] at h
  simp [zof, at8, h']
theorem ZOwn.at8 {w : World} {B g off n c : Nat} {l : List UInt8} (h : ZOwn w B (.slice (some ⟨g, off, none⟩) n c) (zof l)) (i : Nat) (hi : i < l.length) :
    w.cell? ⟨g, off + i, none⟩ = some (.int .i64 ((YtekaoknpjpbjgaaDoor.at8 l i).toNat : Int)) ∧ w.frozen? ⟨g, off + i, none⟩ = false ∧
      ∀ x : UInt8, ZOwn (w.setCell ⟨g, off + i, none⟩ (.int .i64 (x.toNat : Int))) B (.slice (some ⟨g, off, none⟩) n c) (zof (l.set i x)) := by
  obtain ⟨h1, h2, h3⟩ := ZOwn.at h i (by rw [zof_len]; exact hi)
  rw [zof_get] at h1
  exact ⟨h1, h2, fun x => by have := h3 (x.toNat : Int); rwa [zof_set] at this⟩
theorem ZAt.at8 {w : World} {p : Nat → Prop} {v : Value} {l : List UInt8} (h : ZAt w p v (zof l)) (h0 : 0 < l.length) :
    ∃ b off c, v = .slice (some ⟨b, off, none⟩) l.length c ∧ l.length ≤ c ∧ c ≤ maxLen ∧ p b ∧ ∀ i, i < l.length → w.cell? ⟨b, off + i, none⟩ = some (.int .i64 ((YtekaoknpjpbjgaaDoor.at8 l i).toNat : Int)) := by
  obtain ⟨b, off, c, h1, h2, h3, h4, h5⟩ := ZAt.get h (by rw [zof_len]; exact h0)
  rw [zof_len] at h1 h2
  exact ⟨b, off, c, h1, h2, h3, h4, fun i hi => by have := h5 i (by rw [zof_len]; exact hi); rwa [zof_get] at this⟩

/-- make([]int, n). -/
theorem wpList_make_ints {w : World} {ops : Array Oper} {rest : List Oper} {o : Oper} {a : Act} {Q : Exit → Act → World → Prop}
    (hg : o.guard = none) (l c : Operand) (hop : o.op = Op.makeSlice 76 l c) (base : Nat) (L C : Int) (n cap : Nat) (hl : a.eval l = .int .i64 L) (hc : a.eval c = .int .i64 C)
    (hL : L = (n : Int)) (hC : C = (cap : Int)) (h1 : n ≤ cap) (h2 : cap ≤ 1099511627776) (hb : base ≤ w.heap.size)
    (hK : ∀ w', ZOwn w' base (.slice (some ⟨w.heap.size, 0, none⟩) n cap) (zof (List.replicate n 0)) → Keeps (fun _ => False) w w' → wpList Tryd.prog ops Q rest (a.put o.dst (.slice (some ⟨w.heap.size, 0, none⟩) n cap)) w') :
    wpList Tryd.prog ops Q (o :: rest) a w := by
  obtain ⟨i, hi, hz, hs, hby⟩ := info_parts info_int
  refine wpList_plain hg fun K hK' => ?_
  have hrun := run_make (P := Tryd.prog) w 76 _ i _ Tryd.underlying76 hi hz .i64 .i64 L C (by omega) (by omega) (by rw [hby]; omega) (by omega)
  have e1 : L.toNat = n := by omega
  have e2 : C.toNat = cap := by omega
  rw [e1, e2, hs, Nat.mul_one] at hrun
  unfold Oper.wp
  simp [execOp, hop, hl, hc, hrun, Result.andThen]
  refine hK' _ _ (hK _ ?_ ((Keeps.refl _ w).alloc _))
  have hcells : madeCells (Value.int .i64 0).cells cap = (List.replicate cap (Value.int .i64 0)).toArray := by
    rw [← toList_madeCells_one (.int .i64 0) cap]
    rfl
  refine ⟨by simp [zcells_length, zof_len], zcells_one _, .inr ⟨w.heap.size, 0, cap, _, hb, by simp [zof_len], by simpa [zof_len] using h1, by simp only [maxLen]; omega, RowAt.new w _ _, by rw [size_madeCells]; omega, fun j hj => ?_⟩⟩
  have hj' : j < n := by simpa [zof_len] using hj
  have hj2 : j < cap := by omega
  rw [hcells, Nat.zero_add, List.getElem?_toArray, List.getElem?_replicate, if_pos hj2]
  simp [zcells, zcell, zof, hj']

theorem updN_rep (n : Nat) (f : Nat → UInt8) : updN n f (fun _ => 0) 0 = List.replicate n 0 := by
  refine List.ext_getElem (by simp [updN]) fun i h1 h2 => ?_
  rw [updN_get]
  simp
theorem updN_all (n : Nat) (f : Nat → UInt8) : updN n f (fun _ => 0) n = (List.range n).map f := by
  unfold updN
  refine List.map_congr_left fun i hi => ?_
  rw [if_pos (List.mem_range.1 hi)]
theorem boxL_range : (List.range 256).map (fun i => sbox (UInt8.ofNat i)) = boxL := by
  refine List.ext_getElem (by simp [boxL_len]) fun i h1 h2 => ?_
  have hi : i < 256 := by simpa using h1
  simp only [List.getElem_map, List.getElem_range, sbox]
  rw [UInt8.toNat_ofNat', Nat.mod_eq_of_lt hi, List.getD_eq_getElem?_getD, List.getElem?_eq_getElem (by rw [boxL_len]; exact hi)]
  rfl
set_option maxRecDepth 100000 in
set_option maxHeartbeats 1000000 in
theorem rtable_any (w : World) : Calls Tryd.prog 55 #[] w fun e w' => ∃ v, e = .returned v ∧ ZOwn w' w.heap.size v (zof boxL) ∧ Keeps (fun _ => False) w w' := by
  obtain ⟨f, hf⟩ : ∃ f : Nat → UInt8, f = fun i => sbox (UInt8.ofNat i) := ⟨_, rfl⟩
  have hall : updN 256 f (fun _ => 0) 256 = boxL := by rw [updN_all, hf, boxL_range]
  have hB : ∀ (k : Nat) (w : World), k < 256 → Calls Tryd.prog 70 #[.int .i64 k] w fun e w' => e = .returned (.int .i64 ((f k).toNat : Int)) ∧ w = w' := fun k w hk => by
    have h := rbox_any k w (by omega)
    have e := boxN_eq (UInt8.ofNat k)
    rw [UInt8.toNat_ofNat', Nat.mod_eq_of_lt hk] at e
    rw [e] at h
    rw [hf]
    exact h
  have HB := Lib.hid hB
  have HALL := Lib.hid hall
  clear hf hall hB
  go_enter Tryd.func55, Tryd.ntmps55
  go_wp2_with (at_make; (refine wpList_make_ints rfl (.const (.int .i64 256)) (.const (.int .i64 256)) rfl w.heap.size _ _ 256 256 rfl rfl rfl rfl (by omega) (by omega) (Nat.le_refl _) (fun w1 h1 hk1 => ?_)))
  rw [← updN_rep 256 f] at h1
  have H1 := Lib.hid h1
  have HK1 := Lib.hid hk1
  clear h1 hk1
  go_loopw [2] (fun u2 wr => ∃ k : Nat, k ≤ 256 ∧ u2 = .int .i64 k ∧ ZOwn wr w.heap.size (.slice (some ⟨w.heap.size, 0, none⟩) 256 256) (zof (updN 256 f (fun _ => 0) k)) ∧ Keeps (fun _ => False) w wr) (fun u2 _ => 256 - (intOf u2).toNat)
  case atStart => exact ⟨0, by omega, rfl, H1.out, HK1.out⟩
  case round =>
    obtain ⟨k, hk, rfl, ho, hkr⟩ := hrel
    clear H1 HK1
    by_cases hlt : k < 256
    · obtain ⟨t1, t2, t3⟩ := ho.at8 k (by rw [updN_len]; exact hlt)
      have t4 := t3 (f k)
      rw [updN_set 256 f] at t4
      rw [Nat.zero_add] at t1 t2 t4
      have hk2 := hkr.setCell ⟨w.heap.size, k, none⟩ (.int .i64 ((f k).toNat : Int)) (.inr (Nat.le_refl _))
      have T4 := Lib.hid t4
      have HK2 := Lib.hid hk2
      have HBK := Lib.hid (HB.out k wr hlt)
      generalize (f k).toNat = y at *
      clear t3 t4 hk2 ho hkr
      go_wp2_with fail
      refine HBK.out.mono ?_
      rintro e w5 ⟨rfl, rfl⟩
      go_wp2
      go_roundw
      case rel => exact ⟨k + 1, by omega, by go_num, T4.out, HK2.out⟩
      case measure => simp [intOf]; omega
    · obtain rfl : k = 256 := by omega
      rw [HALL.out] at ho
      have HO := Lib.hid ho
      have HK := Lib.hid hkr
      clear ho hkr
      go_wp2
      go_ret
      exact ⟨_, rfl, HO.out, HK.out⟩

theorem withF_upd (b keys : List UInt8) : updN 16 (fun i => at8 b i ^^^ at8 keys i) (fun _ => 0) 16 = withF b keys := by rw [updN_all, withF]
set_option maxRecDepth 100000 in
set_option maxHeartbeats 1000000 in
theorem rwith8_any (bv kv : Value) (b keys : List UInt8) (w : World) (hb : ZRd w bv (zof b)) (hk : BRd w kv keys) (hbl : b.length = 16) (hkl : 16 ≤ keys.length) :
    Calls Tryd.prog 71 #[bv, kv] w fun e w' => ∃ v, e = .returned v ∧ ZOwn w' w.heap.size v (zof (withF b keys)) ∧ Keeps (fun _ => False) w w' := by
  obtain ⟨bb, bo, bc, rfl, -, -, -, hbc⟩ := ZAt.at8 hb (by omega)
  obtain ⟨kb, ko, kc, rfl, -, -, -, hkc⟩ := BAt.at8 hk (by omega)
  rw [hbl] at hbc ⊢
  have HBC := Lib.hid hbc
  have HKC := Lib.hid hkc
  have HALL := Lib.hid (withF_upd b keys)
  obtain ⟨f, hf⟩ : ∃ f : Nat → UInt8, f = fun i => at8 b i ^^^ at8 keys i := ⟨_, rfl⟩
  rw [← hf] at HALL
  have HF := Lib.hid hf
  obtain ⟨n, hn⟩ : ∃ n, keys.length = n := ⟨_, rfl⟩
  rw [hn] at HKC hkl ⊢
  clear hb hk hbc hkc hf
  go_enter Tryd.func71, Tryd.ntmps71
  go_wp2_with (at_make; (refine wpList_make_ints rfl (.const (.int .i64 16)) (.const (.int .i64 16)) rfl w.heap.size _ _ 16 16 rfl rfl rfl rfl (by omega) (by omega) (Nat.le_refl _) (fun w1 h1 hk1 => ?_)))
  rw [← updN_rep 16 f] at h1
  have H1 := Lib.hid h1
  have HK1 := Lib.hid hk1
  clear h1 hk1
  go_loopw [6] (fun u6 wr => ∃ k : Nat, k ≤ 16 ∧ u6 = .int .i64 k ∧ ZOwn wr w.heap.size (.slice (some ⟨w.heap.size, 0, none⟩) 16 16) (zof (updN 16 f (fun _ => 0) k)) ∧ Keeps (fun _ => False) w wr) (fun u6 _ => 16 - (intOf u6).toNat)
  case atStart => exact ⟨0, by omega, rfl, H1.out, HK1.out⟩
  case round =>
    obtain ⟨k, hk, rfl, ho, hkr⟩ := hrel
    clear H1 HK1
    by_cases hlt : k < 16
    · obtain ⟨t1, t2, t3⟩ := ho.at8 k (by rw [updN_len]; exact hlt)
      have t4 := t3 (f k)
      rw [updN_set 16 f] at t4
      rw [Nat.zero_add] at t1 t2 t4
      have hk2 := hkr.setCell ⟨w.heap.size, k, none⟩ (.int .i64 ((f k).toNat : Int)) (.inr (Nat.le_refl _))
      have c1 := hkr.cell (HBC.out k (by omega)) (fun h => h)
      have c2 := hkr.cell (HKC.out k (by omega)) (fun h => h)
      have x1 := (at8 b k).toNat_lt
      have x2 := (at8 keys k).toNat_lt
      have hx := i64_xor_nat (at8 b k).toNat (at8 keys k).toNat (by omega) (by omega)
      have hfk : (at8 b k).toNat ^^^ (at8 keys k).toNat = (f k).toNat := by rw [HF.out, UInt8.toNat_xor]
      rw [hfk] at hx
      have T4 := Lib.hid t4
      have HK2 := Lib.hid hk2
      generalize (f k).toNat = y at *
      generalize (at8 b k).toNat = y1 at *
      generalize (at8 keys k).toNat = y2 at *
      have hkn : (k : Int) < (n : Int) := by omega
      clear t3 t4 hk2 ho hkr hfk
      go_wp2
      refine region_draws_tail 12 (by kernel_rfl) (by kernel_rfl) ?_
      simp only [List.take_succ_cons, List.take_zero, List.drop_succ_cons, List.drop_zero]
      repeat (go_big_quiet_step (fail))
      refine wpQuiet_nil ?_
      rintro _ ⟨nq, rfl⟩
      go_wp2
      go_roundw
      case rel => exact ⟨k + 1, by omega, by go_num, T4.out.keeps ((Keeps.refl (fun _ => False) _).drewN nq) (fun _ _ h => h), HK2.out.drewN nq⟩
      case measure => simp [intOf]; omega
    · obtain rfl : k = 16 := by omega
      rw [HALL.out] at ho
      have HO := Lib.hid ho
      have HK := Lib.hid hkr
      clear ho hkr
      go_wp2
      go_ret
      exact ⟨_, rfl, HO.out, HK.out⟩
set_option maxRecDepth 100000 in
theorem rmay8_any (kv : Value) (key : List UInt8) (w : World) (hk : BRd w kv key) (hkl : key.length = 16 ∨ key.length = 32) : Calls Tryd.prog 53 #[kv] w fun e w' => e = .returned (.bool true) ∧ w = w' := by
  obtain ⟨ka, kc, rfl, -, -⟩ := BAt.slice hk
  rcases hkl with h | h
  · have h1 : (key.length : Int) = 16 := by omega
    clear hk
    go_enter Tryd.func53, Tryd.ntmps53
    go_wp2
    go_ret
    exact ⟨rfl, rfl⟩
  · have h1 : (key.length : Int) = 32 := by omega
    clear hk
    go_enter Tryd.func53, Tryd.ntmps53
    go_wp2
    go_ret
    exact ⟨rfl, rfl⟩
end Go.Proofs.YtekaoknpjpbjgaaDoor

/-! The reference's By: a block. -/
namespace Go.Proofs.YtekaoknpjpbjgaaDoor
set_option linter.unusedVariables false
set_option linter.unusedSimpArgs false
open Go.RowKit

theorem upd_self (b : List UInt8) (h : b.length = 16) : updN 16 (at8 b) (fun _ => 0) 16 = b := by
  rw [updN_all]
  refine List.ext_getElem (by simp [h]) fun i h1 h2 => ?_
  simp [at8, h2]
theorem rowsF_upd (b : List UInt8) : updN 16 (fun i => sbox (at8 b (5 * i % 16))) (fun _ => 0) 16 = rowsF b := by rw [updN_all, rowsF]
theorem mixF_upd (b : List UInt8) : updN 16 (fun i => dbl (at8 b i) ^^^ (dbl (at8 b (i / 4 * 4 + (i + 1) % 4)) ^^^ at8 b (i / 4 * 4 + (i + 1) % 4)) ^^^ at8 b (i / 4 * 4 + (i + 2) % 4) ^^^ at8 b (i / 4 * 4 + (i + 3) % 4)) (fun _ => 0) 16 = mixF b := by rw [updN_all, mixF]
theorem rowsF_len (b : List UInt8) : (rowsF b).length = 16 := by simp [rowsF]
theorem mixF_len (b : List UInt8) : (mixF b).length = 16 := by simp [mixF]
theorem at_boxL (x : UInt8) : at8 boxL x.toNat = sbox x := rfl
theorem x64 (a b c : UInt8) (h : a ^^^ b = c) : bits .xor .i64 (a.toNat : Int) (b.toNat : Int) = (c.toNat : Int) := by
  have h1 := a.toNat_lt
  have h2 := b.toNat_lt
  rw [i64_xor_nat _ _ (by omega) (by omega), ← h, UInt8.toNat_xor]
theorem rt2 (x : UInt8) (w : World) : Calls Tryd.prog 69 #[.int .i64 (x.toNat : Int), .int .i64 2] w fun e w' => e = .returned (.int .i64 ((dbl x).toNat : Int)) ∧ w = w' := by
  have h := rtimes_any x.toNat 2 w (by have := x.toNat_lt; omega) (by omega)
  rw [tN2] at h
  exact h
theorem rt3 (x : UInt8) (w : World) : Calls Tryd.prog 69 #[.int .i64 (x.toNat : Int), .int .i64 3] w fun e w' => e = .returned (.int .i64 ((dbl x ^^^ x).toNat : Int)) ∧ w = w' := by
  have h := rtimes_any x.toNat 3 w (by have := x.toNat_lt; omega) (by omega)
  rw [tN3] at h
  exact h
theorem mix_idx (k : Nat) (hk : k < 16) : ∃ q r1 r2 r3 F j1 j2 j3 : Nat, j1 = k / 4 * 4 + (k + 1) % 4 ∧ j2 = k / 4 * 4 + (k + 2) % 4 ∧ j3 = k / 4 * 4 + (k + 3) % 4 ∧ j1 < 16 ∧ j2 < 16 ∧ j3 < 16 ∧ q ≤ 3 ∧ F ≤ 12 ∧ r1 ≤ 3 ∧ r2 ≤ 3 ∧ r3 ≤ 3 ∧
    ((k : Int) + 1).tmod 4 = (r1 : Int) ∧ ((k : Int) + 2).tmod 4 = (r2 : Int) ∧ ((k : Int) + 3).tmod 4 = (r3 : Int) ∧ (k : Int).tdiv 4 = (q : Int) ∧ IntKind.i64.wrap ((k : Int).tdiv 4) = (q : Int) ∧ (q : Int) * 4 = (F : Int) ∧
    IntKind.i64.wrap ((k : Int) + 1) = (k : Int) + 1 ∧ IntKind.i64.wrap ((k : Int) + 2) = (k : Int) + 2 ∧ IntKind.i64.wrap ((k : Int) + 3) = (k : Int) + 3 ∧
    IntKind.i64.wrap ((F : Int) + (r1 : Int)) = (j1 : Int) ∧ IntKind.i64.wrap ((F : Int) + (r2 : Int)) = (j2 : Int) ∧ IntKind.i64.wrap ((F : Int) + (r3 : Int)) = (j3 : Int) := by
  have t4 : ∀ x : Int, 0 ≤ x → x.tmod 4 = x % 4 := fun x h => Int.tmod_eq_emod_of_nonneg h
  have d4 : (k : Int).tdiv 4 = (k : Int) / 4 := Int.tdiv_eq_ediv_of_nonneg (by omega)
  have f : ∀ x y : Int, x = y → 0 ≤ y → y ≤ 1000 → IntKind.i64.wrap x = y := fun x y h h1 h2 => by rw [h]; exact i64_f _ (by omega) (by omega)
  exact ⟨k / 4, (k + 1) % 4, (k + 2) % 4, (k + 3) % 4, k / 4 * 4, _, _, _, rfl, rfl, rfl, by omega, by omega, by omega, by omega, by omega, by omega, by omega, by omega,
    by rw [t4 _ (by omega)]; omega, by rw [t4 _ (by omega)]; omega, by rw [t4 _ (by omega)]; omega, by rw [d4]; omega, f _ _ (by rw [d4]; omega) (by omega) (by omega), by omega,
    f _ _ rfl (by omega) (by omega), f _ _ rfl (by omega) (by omega), f _ _ rfl (by omega) (by omega), f _ _ (by omega) (by omega) (by omega), f _ _ (by omega) (by omega) (by omega), f _ _ (by omega) (by omega) (by omega)⟩
set_option maxRecDepth 100000 in
set_option maxHeartbeats 3000000 in
theorem rby_any (tv kv iv : Value) (keys b : List UInt8) (w : World) (ht : ZRd w tv (zof boxL)) (hk : BRd w kv keys) (hi : BRd w iv b) (hbl : b.length = 16) (hkl : keys.length = 176 ∨ keys.length = 240) :
    Calls Tryd.prog 57 #[tv, kv, iv] w (Gives (blockOf keys b) w) := by
  obtain ⟨tb, to', tc, rfl, -, -, -, htc⟩ := ZAt.at8 ht (by rw [boxL_len]; omega)
  obtain ⟨ib, io, ic, rfl, -, -, -, hic⟩ := BAt.at8 hi (by omega)
  obtain ⟨kb, ko, kc, rfl, hkc, hkm, -, -⟩ := BAt.at8 hk (by omega)
  rw [boxL_len] at htc ht ⊢
  rw [hbl] at hic hi ⊢
  obtain ⟨OUT, hOUT⟩ : ∃ O, blockOf keys b = O := ⟨_, rfl⟩
  have hO0 : roundsF (keys.length / 16 - 1 - 0) (keys.drop (16 * (0 + 1))) (withF b keys) = OUT := hOUT
  rw [hOUT]
  obtain ⟨R, hR⟩ : ∃ R, keys.length / 16 - 1 = R := ⟨_, rfl⟩
  rw [hR] at hO0
  have hn : keys.length = 16 * (R + 1) := by omega
  have hR14 : R ≤ 14 ∧ 1 ≤ R := by omega
  have HTC := Lib.hid htc
  have HIC := Lib.hid hic
  have HK := Lib.hid hk
  have HO0 := Lib.hid hO0
  have HUP := Lib.hid (upd_self b hbl)
  have HN := Lib.hid hn
  have HTT := Lib.hid ht
  have HBL := Lib.hid hbl
  obtain ⟨n, hnn⟩ : ∃ n, keys.length = n := ⟨_, rfl⟩
  have hnR : n = 16 * (R + 1) := by omega
  have HNR := Lib.hid hnR
  have hn240 : (n : Int) ≤ 240 := by omega
  rw [hnn] at HK hkc ⊢
  clear ht hk hi htc hic hOUT hO0 hR hn hkl hnn hbl hnR
  go_enter Tryd.func57, Tryd.ntmps57
  go_wp2_with (at_make; (refine wpList_make_ints rfl (.const (.int .i64 16)) (.const (.int .i64 16)) rfl w.heap.size _ _ 16 16 rfl rfl rfl rfl (by omega) (by omega) (Nat.le_refl _) (fun w1 h1 hk1 => ?_)))
  rw [← updN_rep 16 (at8 b)] at h1
  have H1 := Lib.hid h1
  have HK1 := Lib.hid hk1
  clear h1 hk1
  go_loopw [8] (fun u8 wr => ∃ k : Nat, k ≤ 16 ∧ u8 = .int .i64 k ∧ ZOwn wr w.heap.size (.slice (some ⟨w.heap.size, 0, none⟩) 16 16) (zof (updN 16 (at8 b) (fun _ => 0) k)) ∧ Keeps (fun _ => False) w wr) (fun u8 _ => 16 - (intOf u8).toNat)
  case atStart => exact ⟨0, by omega, rfl, H1.out, HK1.out⟩
  case round =>
    obtain ⟨k, hk, rfl, ho, hkr⟩ := hrel
    clear H1 HK1
    by_cases hlt : k < 16
    · obtain ⟨t1, t2, t3⟩ := ho.at8 k (by rw [updN_len]; exact hlt)
      have t4 := t3 (at8 b k)
      rw [updN_set 16 (at8 b)] at t4
      rw [Nat.zero_add] at t1 t2 t4
      have hk2 := hkr.setCell ⟨w.heap.size, k, none⟩ (.int .i64 ((at8 b k).toNat : Int)) (.inr (Nat.le_refl _))
      have c1 := hkr.cell (HIC.out k (by omega)) (fun h => h)
      have T4 := Lib.hid t4
      have HK2 := Lib.hid hk2
      have x1 := (at8 b k).toNat_lt
      generalize (at8 b k).toNat = y at *
      have x1' : (y : Int) ≤ 255 := by omega
      clear t3 t4 hk2 ho hkr x1
      go_wp2
      go_roundw
      case rel => exact ⟨k + 1, by omega, by go_num, T4.out, HK2.out⟩
      case measure => simp [intOf]; omega
    · obtain rfl : k = 16 := by omega
      rw [HUP.out] at ho
      have HW := Lib.hid (rwith8_any _ _ b keys wr ho.bat.low (BRd.keeps HK.out hkr) HBL.out (by rw [HN.out]; omega))
      have HKR := Lib.hid hkr
      clear ho hkr
      go_wp2_with fail
      refine HW.out.mono ?_
      rintro e w2 ⟨v2, rfl, ho2, hk2⟩
      have HZ2 := Lib.hid (show ZRd w2 v2 (zof (withF b keys)) from ho2.bat.low)
      have HK2 := Lib.hid (HKR.out.trans hk2 (fun _ _ h => h))
      clear ho2 hk2 HW HKR
      go_wp2
      go_loopw [7, 9] (fun u7 u9 wr => ∃ (m : Nat) (bm : List UInt8), m ≤ R ∧ bm.length = 16 ∧ u9 = .int .i64 ((16 * (m + 1) : Nat) : Int) ∧ ZRd wr u7 (zof bm) ∧ roundsF (R - m) (keys.drop (16 * (m + 1))) bm = OUT ∧ Keeps (fun _ => False) w wr) (fun _ u9 _ => 16 * (R + 1) - (intOf u9).toNat)
      case atStart => exact ⟨0, withF b keys, by omega, withF_len _ _, rfl, HZ2.out, HO0.out, HK2.out⟩
      case round =>
        obtain ⟨m, bm, hm, hbm, rfl, hz, hF, hkr⟩ := hrel
        clear HZ2 HK2 HO0
        generalize wr = W at *
        obtain ⟨gb, ob, cb, rfl, -, -, -, hbc⟩ := ZAt.at8 hz (by omega)
        rw [hbm] at hbc ⊢
        obtain ⟨M, hM⟩ : ∃ M, 16 * (m + 1) = M := ⟨_, rfl⟩
        rw [hM] at hF ⊢
        have hMI : (M : Int) ≤ 240 := by omega
        have HM := Lib.hid hM
        clear hM
        by_cases hlt : m < R
        · have hMn : (M : Int) < (n : Int) := by have := HNR.out; have := HM.out; omega
          have hstep : roundsF (R - m) (keys.drop M) bm = roundsF (R - (m + 1)) (keys.drop (16 * (m + 1 + 1))) (withF (if R - (m + 1) = 0 then rowsF bm else mixF (rowsF bm)) (keys.drop M)) := by
            rw [show R - m = (R - (m + 1)) + 1 by omega]
            show roundsF _ ((keys.drop M).drop 16) _ = _
            rw [List.drop_drop, show M + 16 = 16 * (m + 1 + 1) by have := HM.out; omega]
          rw [hF] at hstep
          have HS := Lib.hid hstep
          have HBC := Lib.hid hbc
          have HKR := Lib.hid hkr
          have hsz := hkr.size
          clear hstep hbc hF hz hkr
          go_wp2_with (at_make; (refine wpList_make_ints rfl (.const (.int .i64 16)) (.const (.int .i64 16)) rfl w.heap.size _ _ 16 16 rfl rfl rfl rfl (by omega) (by omega) hsz (fun w1 h1 hk1 => ?_)))
          have hW1 : (Value.slice (some ⟨W.heap.size, 0, none⟩) 16 16) = (Value.slice (some ⟨W.heap.size, 0, none⟩) 16 16) := rfl
          obtain ⟨f1, hf1⟩ : ∃ f : Nat → UInt8, f = fun i => sbox (at8 bm (5 * i % 16)) := ⟨_, rfl⟩
          have HF1 := Lib.hid hf1
          have hall1 := rowsF_upd bm
          rw [← hf1] at hall1
          have HA1 := Lib.hid hall1
          rw [← updN_rep 16 f1] at h1
          have H1 := Lib.hid h1
          have HK1 := Lib.hid hk1
          clear h1 hk1 hall1 hf1 hW1
          go_loopw [11] (fun u11 wr => ∃ k : Nat, k ≤ 16 ∧ u11 = .int .i64 k ∧ ZOwn wr w.heap.size (.slice (some ⟨W.heap.size, 0, none⟩) 16 16) (zof (updN 16 f1 (fun _ => 0) k)) ∧ Keeps (fun _ => False) W wr) (fun u11 _ => 16 - (intOf u11).toNat)
          case atStart => exact ⟨0, by omega, rfl, H1.out, HK1.out⟩
          case round =>
            obtain ⟨k, hk, rfl, ho, hkr⟩ := hrel
            clear H1 HK1
            by_cases hlt : k < 16
            · obtain ⟨t1, t2, t3⟩ := ho.at8 k (by rw [updN_len]; exact hlt)
              have t4 := t3 (f1 k)
              rw [updN_set 16 f1] at t4
              rw [Nat.zero_add] at t1 t2 t4
              have hk2 := hkr.setCell ⟨W.heap.size, k, none⟩ (.int .i64 ((f1 k).toNat : Int)) (.inr (Nat.le_refl _))
              obtain ⟨r, hr⟩ : ∃ r, k % 4 = r := ⟨_, rfl⟩
              obtain ⟨q, hq⟩ : ∃ q, k / 4 = q := ⟨_, rfl⟩
              obtain ⟨s, hs⟩ : ∃ s, (q + r) % 4 = s := ⟨_, rfl⟩
              obtain ⟨j, hj⟩ : ∃ j, r + 4 * s = j := ⟨_, rfl⟩
              have hj5 : j = 5 * k % 16 := by omega
              have hj16 : j < 16 := by omega
              have c1 := hkr.cell (HBC.out j hj16) (fun h => h)
              have x1 := (at8 bm j).toNat_lt
              have c2 := (HKR.out.trans hkr (fun _ _ h => h)).cell (HTC.out (at8 bm j).toNat (by omega)) (fun h => h)
              rw [at_boxL] at c2
              have hfk : f1 k = sbox (at8 bm j) := by rw [HF1.out, hj5]
              rw [← hfk] at c2
              have e1 : (k : Int).tmod 4 = (r : Int) := by rw [Int.tmod_eq_emod_of_nonneg (by omega)]; omega
              have e1' : (k : Int) % 4 = (r : Int) := by omega
              have e2 : (k : Int).tdiv 4 = (q : Int) := by rw [Int.tdiv_eq_ediv_of_nonneg (by omega)]; omega
              have e2' : IntKind.i64.wrap ((k : Int).tdiv 4) = (q : Int) := by rw [e2]; exact i64_f _ (by omega) (by omega)
              have e3 : ((q : Int) + (r : Int)).tmod 4 = (s : Int) := by rw [Int.tmod_eq_emod_of_nonneg (by omega)]; omega
              have e3' : ((q : Int) + (r : Int)) % 4 = (s : Int) := by omega
              have e4 : (r : Int) + 4 * (s : Int) = (j : Int) := by omega
              have b1 : r ≤ 3 ∧ q ≤ 3 ∧ s ≤ 3 := by omega
              obtain ⟨b1, b2, b3⟩ := b1
              have T4 := Lib.hid t4
              have HK2 := Lib.hid hk2
              generalize (f1 k).toNat = y at *
              generalize (at8 bm j).toNat = y1 at *
              clear t3 t4 hk2 ho hkr hfk hj5 hr hq hs hj
              go_wp2
              go_roundw
              case rel => exact ⟨k + 1, by omega, by go_num, T4.out, HK2.out⟩
              case measure => simp [intOf]; omega
            · obtain rfl : k = 16 := by omega
              rw [HA1.out] at ho
              have HZC := Lib.hid (show ZRd wr _ (zof (rowsF bm)) from ho.bat.low)
              have HKC := Lib.hid (HKR.out.trans hkr (fun _ _ h => h))
              clear ho hkr HA1 HF1
              generalize wr = V at *
              by_cases hz : R - (m + 1) = 0
              · have hS := HS.out
                rw [if_pos hz] at hS
                have HS2 := Lib.hid hS
                have hcond : ¬ (M : Int) + 16 < (n : Int) := by have := HNR.out; have := HM.out; omega
                clear hS HS
                have hcM : ¬ kc = M := by have := HNR.out; have := HM.out; omega
                have hMn2 : (M : Int) ≤ (n : Int) := by omega
                have hcut : BRd V (.slice (cutA (some ⟨kb, ko, none⟩) kc M) (n - M) (kc - M)) (keys.drop M) := BAt.cutG (BRd.keeps HK.out (HKC).out) M (by rw [HN.out]; have := HM.out; omega)
                rw [show cutA (some ⟨kb, ko, none⟩) kc M = some ⟨kb, ko + M, none⟩ by unfold cutA; rw [if_neg hcM, Option.map_some, addr_add]] at hcut
                have HWX := Lib.hid (rwith8_any _ _ (rowsF bm) (keys.drop M) V HZC.out hcut (rowsF_len _) (by rw [List.length_drop, HN.out]; have := HM.out; omega))
                clear hcut
                go_wp2_with fail
                refine HWX.out.mono ?_
                rintro e w3 ⟨v3, rfl, ho3, hk3⟩
                have HZ3 := Lib.hid (show ZRd w3 v3 _ from ho3.bat.low)
                have HK3 := Lib.hid ((HKC).out.trans hk3 (fun _ _ h => h))
                clear ho3 hk3 HWX
                go_wp2
                go_roundw
                case rel => exact ⟨m + 1, _, by omega, withF_len _ _, by rw [show ((16 * (m + 1 + 1) : Nat) : Int) = (M : Int) + 16 by have := HM.out; omega], HZ3.out, HS2.out.symm, HK3.out⟩
                case measure => simp [intOf]; have := HNR.out; have := HM.out; omega
              · have hS := HS.out
                rw [if_neg hz] at hS
                have HS2 := Lib.hid hS
                have hcond : (M : Int) + 16 < (n : Int) := by have := HNR.out; have := HM.out; omega
                have hvz := HKC.out.size
                obtain ⟨C, hC⟩ : ∃ C, rowsF bm = C := ⟨_, rfl⟩
                have hCl : C.length = 16 := by rw [← hC]; exact rowsF_len _
                rw [hC] at HZC HS2
                have hcc : ∀ i, i < 16 → V.cell? ⟨W.heap.size, i, none⟩ = some (.int .i64 ((at8 C i).toNat : Int)) := fun i hi => by
                  obtain ⟨b9, o9, c9, e9, -, -, -, h9⟩ := ZAt.at8 HZC.out (by omega)
                  simp only [Value.slice.injEq, Option.some.injEq, Addr.mk.injEq, and_true] at e9
                  obtain ⟨⟨rfl, rfl⟩, -, -⟩ := e9
                  have := h9 i (by omega)
                  rwa [Nat.zero_add] at this
                have HCC := Lib.hid hcc
                clear hS HS hC hcc HZC
                go_wp2_with (at_make; (refine wpList_make_ints rfl (.const (.int .i64 16)) (.const (.int .i64 16)) rfl w.heap.size _ _ 16 16 rfl rfl rfl rfl (by omega) (by omega) hvz (fun w1 h1 hk1 => ?_)))
                obtain ⟨f2, hf2⟩ : ∃ f : Nat → UInt8, f = fun i => dbl (at8 C i) ^^^ (dbl (at8 C (i / 4 * 4 + (i + 1) % 4)) ^^^ at8 C (i / 4 * 4 + (i + 1) % 4)) ^^^ at8 C (i / 4 * 4 + (i + 2) % 4) ^^^ at8 C (i / 4 * 4 + (i + 3) % 4) := ⟨_, rfl⟩
                have hall2 := mixF_upd C
                rw [← hf2] at hall2
                have HF2 := Lib.hid hf2
                have HA2 := Lib.hid hall2
                rw [← updN_rep 16 f2] at h1
                have H1 := Lib.hid h1
                have HK1 := Lib.hid hk1
                clear h1 hk1 hall2 hf2
                go_loopw [13] (fun u13 wr => ∃ k : Nat, k ≤ 16 ∧ u13 = .int .i64 k ∧ ZOwn wr w.heap.size (.slice (some ⟨V.heap.size, 0, none⟩) 16 16) (zof (updN 16 f2 (fun _ => 0) k)) ∧ Keeps (fun _ => False) V wr) (fun u13 _ => 16 - (intOf u13).toNat)
                case atStart => exact ⟨0, by omega, rfl, H1.out, HK1.out⟩
                case round =>
                  obtain ⟨k, hk, rfl, ho, hkr⟩ := hrel
                  clear H1 HK1
                  by_cases hlt : k < 16
                  · obtain ⟨t1, t2, t3⟩ := ho.at8 k (by rw [updN_len]; exact hlt)
                    have t4 := t3 (f2 k)
                    rw [updN_set 16 f2] at t4
                    rw [Nat.zero_add] at t1 t2 t4
                    have hk2 := hkr.setCell ⟨V.heap.size, k, none⟩ (.int .i64 ((f2 k).toNat : Int)) (.inr (Nat.le_refl _))
                    obtain ⟨q, r1, r2, r3, F, j1, j2, j3, hj1, hj2, hj3, hb1, hb2, hb3, bq, bF, br1, br2, br3, g1, g2, g3, e2, e2', e3, n1, n2, n3, o1, o2, o3⟩ := mix_idx k hlt
                    have HO := Lib.hid (And.intro e2' (And.intro n1 (And.intro n2 (And.intro n3 (And.intro o1 (And.intro o2 o3))))))
                    clear e2' n1 n2 n3 o1 o2 o3
                    have c0 := hkr.cell (HCC.out k hlt) (fun h => h)
                    have c1 := hkr.cell (HCC.out j1 hb1) (fun h => h)
                    have c2 := hkr.cell (HCC.out j2 hb2) (fun h => h)
                    have c3 := hkr.cell (HCC.out j3 hb3) (fun h => h)
                    have hfk : f2 k = dbl (at8 C k) ^^^ (dbl (at8 C j1) ^^^ at8 C j1) ^^^ at8 C j2 ^^^ at8 C j3 := by rw [HF2.out, hj1, hj2, hj3]
                    have HT2 := Lib.hid (fun n => rt2 (at8 C k) (wr.drewN n))
                    have HT3 := Lib.hid (fun n => rt3 (at8 C j1) (wr.drewN n))
                    have hx1 := x64 (dbl (at8 C k)) (dbl (at8 C j1) ^^^ at8 C j1) _ rfl
                    have hx2 := x64 (dbl (at8 C k) ^^^ (dbl (at8 C j1) ^^^ at8 C j1)) (at8 C j2) _ rfl
                    have hx3 := x64 (dbl (at8 C k) ^^^ (dbl (at8 C j1) ^^^ at8 C j1) ^^^ at8 C j2) (at8 C j3) (f2 k) hfk.symm
                    generalize dbl (at8 C k) ^^^ (dbl (at8 C j1) ^^^ at8 C j1) ^^^ at8 C j2 = Z2 at *
                    generalize dbl (at8 C k) ^^^ (dbl (at8 C j1) ^^^ at8 C j1) = Z1 at *
                    generalize dbl (at8 C j1) ^^^ at8 C j1 = Y3 at *
                    generalize dbl (at8 C k) = Y2 at *
                    have T4 := Lib.hid t4
                    have HK2 := Lib.hid hk2
                    generalize (f2 k).toNat = y at *
                    generalize (at8 C k).toNat = ya at *
                    generalize (at8 C j1).toNat = yb at *
                    generalize (at8 C j2).toNat = yc at *
                    generalize (at8 C j3).toNat = yd at *
                    generalize Z2.toNat = z2 at *
                    generalize Z1.toNat = z1 at *
                    generalize Y3.toNat = y3 at *
                    generalize Y2.toNat = y2 at *
                    clear t3 t4 hk2 ho hkr hfk hj1 hj2 hj3
                    obtain ⟨e2', n1, n2, n3, o1, o2, o3⟩ := HO.out
                    clear HO
                    go_wp2
                    refine region_draws_tail 35 (by kernel_rfl) (by kernel_rfl) ?_
                    simp only [List.take_succ_cons, List.take_zero, List.drop_succ_cons, List.drop_zero]
                    repeat (go_big_quiet_step (first | with_reducible exact quiet_same (HT2.out _) | with_reducible exact quiet_same2 (HT2.out _) | with_reducible exact quiet_same (HT3.out _) | with_reducible exact quiet_same2 (HT3.out _)))
                    refine wpQuiet_nil ?_
                    rintro _ ⟨nq, rfl⟩
                    go_wp2
                    go_roundw
                    case rel => exact ⟨k + 1, hlt, by go_num, T4.out.keeps ((Keeps.refl (fun _ => False) _).drewN nq) (fun _ _ h => h), HK2.out.drewN nq⟩
                    case measure => clear e2' n1 n2 n3 o1 o2 o3; simp [intOf]; omega
                  · obtain rfl : k = 16 := by omega
                    rw [HA2.out] at ho
                    have HZD := Lib.hid (show ZRd wr _ (zof (mixF C)) from ho.bat.low)
                    have HKD := Lib.hid (HKC.out.trans hkr (fun _ _ h => h))
                    clear ho hkr HA2 HF2
                    generalize wr = U at *
                    have hcM : ¬ kc = M := by have := HNR.out; have := HM.out; omega
                    have hMn2 : (M : Int) ≤ (n : Int) := by omega
                    have hcut : BRd U (.slice (cutA (some ⟨kb, ko, none⟩) kc M) (n - M) (kc - M)) (keys.drop M) := BAt.cutG (BRd.keeps HK.out (HKD).out) M (by rw [HN.out]; have := HM.out; omega)
                    rw [show cutA (some ⟨kb, ko, none⟩) kc M = some ⟨kb, ko + M, none⟩ by unfold cutA; rw [if_neg hcM, Option.map_some, addr_add]] at hcut
                    have HWX := Lib.hid (rwith8_any _ _ (mixF C) (keys.drop M) U HZD.out hcut (mixF_len _) (by rw [List.length_drop, HN.out]; have := HM.out; omega))
                    clear hcut
                    go_wp2_with fail
                    refine HWX.out.mono ?_
                    rintro e w3 ⟨v3, rfl, ho3, hk3⟩
                    have HZ3 := Lib.hid (show ZRd w3 v3 _ from ho3.bat.low)
                    have HK3 := Lib.hid ((HKD).out.trans hk3 (fun _ _ h => h))
                    clear ho3 hk3 HWX
                    go_wp2
                    go_roundw
                    case rel => exact ⟨m + 1, _, by omega, withF_len _ _, by rw [show ((16 * (m + 1 + 1) : Nat) : Int) = (M : Int) + 16 by have := HM.out; omega], HZ3.out, HS2.out.symm, HK3.out⟩
                    case measure => simp [intOf]; have := HNR.out; have := HM.out; omega
        · have hmR : m = R := by omega
          have hMn : ¬ (M : Int) < (n : Int) := by have := HNR.out; have := HM.out; omega
          rw [hmR, Nat.sub_self] at hF
          have hF' : bm = OUT := hF
          have hsz := hkr.size
          have HBC := Lib.hid hbc
          have HKR := Lib.hid hkr
          have HF' := Lib.hid hF'
          have hall3 := upd_self bm hbm
          have HA3 := Lib.hid hall3
          clear hF hF' hbc hkr hz hall3 hmR
          go_wp2_with (at_make; (refine wpList_make_bytes rfl (.const (.int .i64 16)) (.const (.int .i64 16)) rfl w.heap.size _ _ 16 16 rfl rfl rfl rfl (by omega) (by omega) hsz (fun w1 h1 hk1 => ?_)))
          rw [← updN_rep 16 (at8 bm)] at h1
          have H1 := Lib.hid h1
          have HK1 := Lib.hid hk1
          clear h1 hk1
          go_loopw [16] (fun u16 wr => ∃ k : Nat, k ≤ 16 ∧ u16 = .int .i64 k ∧ BOwn wr w.heap.size (.slice (some ⟨W.heap.size, 0, none⟩) 16 16) (updN 16 (at8 bm) (fun _ => 0) k) ∧ Keeps (fun _ => False) W wr) (fun u16 _ => 16 - (intOf u16).toNat)
          case atStart => exact ⟨0, by omega, rfl, H1.out, HK1.out⟩
          case round =>
            obtain ⟨k, hk, rfl, ho, hkr⟩ := hrel
            clear H1 HK1
            by_cases hlt : k < 16
            · obtain ⟨t1, t2, t3⟩ := ho.at k (by rw [updN_len]; exact hlt)
              have t4 := t3 (at8 bm k)
              rw [updN_set 16 (at8 bm)] at t4
              rw [updN_get, if_neg (Nat.lt_irrefl k)] at t1
              rw [Nat.zero_add] at t1 t2 t4
              have hk2 := hkr.setCell ⟨W.heap.size, k, none⟩ (.int .u8 ((at8 bm k).toNat : Int)) (.inr (Nat.le_refl _))
              have c1 := hkr.cell (HBC.out k hlt) (fun h => h)
              have x1 := (at8 bm k).toNat_lt
              have T4 := Lib.hid t4
              have HK2 := Lib.hid hk2
              have x1' : ((at8 bm k).toNat : Int) ≤ 255 := by omega
              have x2' : ((at8 bm k).toNat : Int) % 256 = ((at8 bm k).toNat : Int) := by omega
              generalize (at8 bm k).toNat = y at *
              clear t3 t4 hk2 ho hkr x1
              go_wp2
              go_roundw
              case rel => exact ⟨k + 1, by omega, by go_num, T4.out, HK2.out⟩
              case measure => simp [intOf]; omega
            · obtain rfl : k = 16 := by omega
              rw [HA3.out, HF'.out] at ho
              have HO := Lib.hid ho
              have HK := Lib.hid (HKR.out.trans hkr (fun _ _ h => h))
              clear ho hkr
              go_wp2
              go_ret
              exact ⟨_, rfl, HO.out, HK.out⟩
end Go.Proofs.YtekaoknpjpbjgaaDoor

/-! The reference's Keys: small laws. -/
namespace Go.Proofs.YtekaoknpjpbjgaaDoor
set_option linter.unusedVariables false
set_option linter.unusedSimpArgs false
open Go.RowKit

theorem ZOwn.row {w : World} {B : Nat} {v : Value} {l : List UInt8} (h : ZOwn w B v (zof l)) (h0 : 0 < l.length) :
    ∃ g off c cs, v = .slice (some ⟨g, off, none⟩) l.length c ∧ B ≤ g ∧ RowAt w g cs 3 ∧ ∀ j, j < l.length → cs[off + j]? = some (.int .i64 ((YtekaoknpjpbjgaaDoor.at8 l j).toNat : Int)) := by
  obtain ⟨h1, _, h2⟩ := h
  rcases h2 with ⟨rfl, h3, -⟩ | ⟨g, off, c, cs, hb, rfl, h3, h4, hr, h5, h6⟩
  · rw [zof_len] at h3; omega
  · refine ⟨g, off, c, cs, by rw [zof_len], hb, hr, fun j hj => ?_⟩
    rw [h6 j (by rw [zof_len]; omega)]
    have hz : j < (zof l).length := by rw [zof_len]; exact hj
    rw [zcells_get hz, zof_get]
theorem own_apart {w : World} {B b : Nat} {v : Value} {l : List UInt8} {cs : Array Value} (h : BOwn w B v l) (hr : RowAt w b cs 3) : v.ownBlock ≠ some b := by
  obtain ⟨-, -, h2⟩ := h
  rcases h2 with ⟨rfl, -, -⟩ | ⟨g, off, c, cs', hb, rfl, -, -, hr', -⟩
  · simp [Value.ownBlock]
  · intro e
    simp only [Value.ownBlock, Option.some.injEq] at e
    subst e
    unfold RowAt at hr hr'
    rw [hr] at hr'
    simp at hr'
theorem u8_fit (x : UInt8) : IntKind.u8.wrap (x.toNat : Int) = (x.toNat : Int) := by
  have := x.toNat_lt
  simp [IntKind.wrap, IntKind.bits, IntKind.signed]
  omega
theorem u8_i64 (x : UInt8) : IntKind.i64.wrap (x.toNat : Int) = (x.toNat : Int) := i64_f _ (by have := x.toNat_lt; omega) (by have := x.toNat_lt; omega)
end Go.Proofs.YtekaoknpjpbjgaaDoor

/-! The reference's Keys at 16 bytes. -/
namespace Go.Proofs.YtekaoknpjpbjgaaDoor
set_option linter.unusedVariables false
set_option linter.unusedSimpArgs false
open Go.RowKit
set_option maxRecDepth 100000 in
set_option maxHeartbeats 4000000 in
theorem rkeys16_any (kv : Value) (key : List UInt8) (w : World) (hk : BRd w kv key) (hkl : key.length = 16) :
    Calls Tryd.prog 54 #[kv] w (Gives (keysOf key) w) := by
  obtain ⟨ka, kc, rfl, hkc, hkm⟩ := BAt.slice hk
  have HK := Lib.hid hk
  rw [hkl] at HK hkc ⊢
  have HN := Lib.hid hkl
  clear hk hkl
  go_enter Tryd.func54, Tryd.ntmps54
  go_wp2_with fail
  refine (rtable_any _).mono ?_
  rintro e w1 ⟨v1, rfl, ho1, hk1⟩
  obtain ⟨tb, to', tc, csT, rfl, htb, hrt1, hcsT⟩ := ho1.row (by rw [boxL_len]; omega)
  rw [boxL_len] at hcsT ⊢
  have HCS := Lib.hid (fun x : UInt8 => hcsT x.toNat x.toNat_lt)
  have HRT1 := Lib.hid hrt1
  have HK1 := Lib.hid hk1
  have hkb := hk1.alloc (.cells #[.slice ka 16 kc] 25)
  have HBO := Lib.hid (both_any _ [key] _ (by have h := (BBAt.one (T := 25) (BRd.keeps HK.out hk1)).low; exact h) (by simp; have := HN.out; omega))
  have hrtb := hrt1.alloc (.cells #[.slice ka 16 kc] 25)
  have HRTB := Lib.hid hrtb
  have HKB := Lib.hid hkb
  have hqq : (16 : Int).tdiv 4 = 4 := by rfl
  clear hrt1 hcsT ho1 hk1 hkb hrtb
  go_wp2_with fail
  refine HBO.out.mono ?_
  rintro e w3 ⟨v3, rfl, ho3, hk3⟩
  rw [show [key].flatten = key by simp] at ho3
  obtain ⟨a3, c3, rfl, -, -⟩ := BOwn.slice ho3
  rw [HN.out] at ho3 ⊢
  have HO3 := Lib.hid (ho3.mono HKB.out.size)
  have HR3 := Lib.hid (HRTB.out.keeps hk3 (fun h => h))
  have HK3 := Lib.hid (HKB.out.trans hk3 (fun _ _ h => h))
  clear ho3 hk3 HBO HRTB HKB HRT1 HK1
  have hst : keysF 16 40 key 1 = keysOf key := by unfold keysOf; rw [HN.out]; rfl
  have HST := Lib.hid hst
  clear hst
  go_wp2
  go_loopw [5, 6, 7] (fun u5 u6 u7 wr => ∃ (f i : Nat) (out : List UInt8) (t : UInt8) (a : Option Addr) (c : Nat), u5 = .slice a (4 * i) c ∧ u6 = .int .i64 (t.toNat : Int) ∧ u7 = .int .i64 i ∧ out.length = 4 * i ∧ i + f = 44 ∧ 4 ≤ i ∧ BOwn wr w.heap.size (.slice a (4 * i) c) out ∧ RowAt wr tb csT 3 ∧ keysF 16 f out t = keysOf key ∧ Keeps (fun _ => False) w wr) (fun _ _ u7 _ => 44 - (intOf u7).toNat)
  case atStart => exact ⟨40, 4, key, 1, _, _, rfl, rfl, rfl, HN.out, rfl, by omega, HO3.out, HR3.out, HST.out, HK3.out⟩
  case round =>
    obtain ⟨f, i, out, t, a, c, rfl, rfl, rfl, hol, hif, hiN, ho, hr, hF, hkr⟩ := hrel
    have HF := Lib.hid hF
    have HKR := Lib.hid hkr
    clear HR3 HO3 HST HK3 hF hkr
    cases f with
    | zero =>
      obtain rfl : i = 44 := by omega
      have HO := Lib.hid ho
      clear ho hr
      go_wp2
      go_ret
      have e1 : out = keysOf key := HF.out
      exact ⟨_, rfl, by rw [← e1]; exact HO.out, HKR.out⟩
    | succ f =>
      generalize wr = V at *
      obtain ⟨I, hI⟩ : ∃ I, 4 * i = I := ⟨_, rfl⟩
      rw [hI] at hol ho ⊢
      obtain ⟨k, hk⟩ : ∃ k, I = k + 4 := ⟨I - 4, by omega⟩
      have hilt : (i : Int) < 44 := by omega
      have hi60 : i ≤ 60 := by omega
      obtain ⟨g, off, c', he, hcl, -, hgb⟩ := BOwn.place ho (by omega)
      simp only [Value.slice.injEq] at he
      obtain ⟨rfl, -, rfl⟩ := he
      have hcell : ∀ j, j < out.length → V.cell? ⟨g, off + j, none⟩ = some (.int .u8 ((at8 out j).toNat : Int)) := fun j hj => by
        obtain ⟨b9, o9, c9, e9, -, -, -, h9⟩ := BAt.at8 ho.bat (by omega)
        simp only [Value.slice.injEq, Option.some.injEq, Addr.mk.injEq, and_true] at e9
        obtain ⟨⟨rfl, rfl⟩, -, -⟩ := e9
        exact h9 j hj
      have s0 := hcell k (by omega)
      have s1 := hcell (k + 1) (by omega)
      have s2 := hcell (k + 2) (by omega)
      have s3 := hcell (k + 3) (by omega)
      obtain ⟨x0, hx0⟩ : ∃ x, at8 out k = x := ⟨_, rfl⟩
      obtain ⟨x1, hx1⟩ : ∃ x, at8 out (k + 1) = x := ⟨_, rfl⟩
      obtain ⟨x2, hx2⟩ : ∃ x, at8 out (k + 2) = x := ⟨_, rfl⟩
      obtain ⟨x3, hx3⟩ : ∃ x, at8 out (k + 3) = x := ⟨_, rfl⟩
      rw [hx0] at s0
      rw [hx1] at s1
      rw [hx2] at s2
      rw [hx3] at s3
      obtain ⟨k1, hk1⟩ : ∃ k1, k + 1 = k1 := ⟨_, rfl⟩
      obtain ⟨k2, hk2⟩ : ∃ k2, k + 2 = k2 := ⟨_, rfl⟩
      obtain ⟨k3, hk3⟩ : ∃ k3, k + 3 = k3 := ⟨_, rfl⟩
      rw [hk1] at s1
      rw [hk2] at s2
      rw [hk3] at s3
      have v0 : (k : Int) < (I : Int) := by omega
      have v1 : (k1 : Int) < (I : Int) := by omega
      have v2 : (k2 : Int) < (I : Int) := by omega
      have v3 : (k3 : Int) < (I : Int) := by omega
      have z0 : IntKind.i64.wrap (4 * (i : Int)) = (I : Int) := by rw [show 4 * (i : Int) = (I : Int) by omega]; exact i64_f _ (by omega) (by omega)
      have z1 : IntKind.i64.wrap ((I : Int) - 4) = (k : Int) := by rw [show (I : Int) - 4 = (k : Int) by clear z0; omega]; exact i64_f _ (by clear z0; omega) (by clear z0; omega)
      have z2 : IntKind.i64.wrap ((I : Int) - 3) = (k1 : Int) := by clear z0 z1; rw [show (I : Int) - 3 = (k1 : Int) by omega]; exact i64_f _ (by omega) (by omega)
      have z3 : IntKind.i64.wrap ((I : Int) - 2) = (k2 : Int) := by clear z0 z1 z2; rw [show (I : Int) - 2 = (k2 : Int) by omega]; exact i64_f _ (by omega) (by omega)
      have z4 : IntKind.i64.wrap ((I : Int) - 1) = (k3 : Int) := by clear z0 z1 z2 z3; rw [show (I : Int) - 1 = (k3 : Int) by omega]; exact i64_f _ (by omega) (by omega)
      have HZ := Lib.hid (And.intro z0 (And.intro z1 (And.intro z2 (And.intro z3 z4))))
      clear z0 z1 z2 z3 z4
      have HX := Lib.hid (And.intro hx0 (And.intro hx1 (And.intro hx2 hx3)))
      have HKK := Lib.hid (And.intro hk (And.intro hk1 (And.intro hk2 hk3)))
      have HO := Lib.hid ho
      have HR := Lib.hid hr
      have HI := Lib.hid hI
      have HOL := Lib.hid hol
      clear hx0 hx1 hx2 hx3 hcell ho hr hol hk hk1 hk2 hk3
      have htm : (i : Int).tmod 4 = (i : Int) % 4 := Int.tmod_eq_emod_of_nonneg (by omega)
      have htm8 : (i : Int).tmod 8 = (i : Int) % 8 := Int.tmod_eq_emod_of_nonneg (by omega)
      have l0 := m8_lt x0
      have l1 := m8_lt x1
      have l2 := m8_lt x2
      have l3 := m8_lt x3
      go_wp2
      obtain ⟨z0, z1, z2, z3, z4⟩ := HZ.out
      clear HZ
      refine region_draws_tail 28 (by kernel_rfl) (by kernel_rfl) ?_
      simp only [List.take_succ_cons, List.take_zero, List.drop_succ_cons, List.drop_zero]
      repeat (go_big_quiet_step (fail))
      refine wpQuiet_nil ?_
      rintro _ ⟨nq, rfl⟩
      clear z0 z1 z2 z3 z4
      have hrow := RowAt.new (V.drewN nq) #[.int .i64 (x0.toNat : Int), .int .i64 (x1.toNat : Int), .int .i64 (x2.toNat : Int), .int .i64 (x3.toNat : Int)] 3
      have hkA : Keeps (fun _ => False) V ((V.drewN nq).alloc (.cells #[.int .i64 (x0.toNat : Int), .int .i64 (x1.toNat : Int), .int .i64 (x2.toNat : Int), .int .i64 (x3.toNat : Int)] 3)) := ((Keeps.refl (fun _ => False) V).drewN nq).alloc _
      have HRow := Lib.hid hrow
      have HKA := Lib.hid hkA
      clear hrow hkA s0 s1 s2 s3 v0 v1 v2 v3
      by_cases hm : i % 4 = 0
      · have hmI : (i : Int) % 4 = 0 := by omega
        go_wp2_with fail
        generalize hW5 : (V.drewN nq).alloc (.cells #[.int .i64 (x0.toNat : Int), .int .i64 (x1.toNat : Int), .int .i64 (x2.toNat : Int), .int .i64 (x3.toNat : Int)] 3) = W5 at *
        obtain ⟨T5, hT5⟩ : ∃ T5, (V.drewN nq).heap.size = T5 := ⟨_, rfl⟩
        have hT5' : V.heap.size = T5 := hT5
        rw [hT5] at HRow
        rw [hT5']
        have r5 := HR.out.keeps HKA.out (fun h => h)
        have d0 := HRow.out.cell 0
        have d1 := HRow.out.cell 1
        have d2 := HRow.out.cell 2
        have d3 := HRow.out.cell 3
        have e0 := (r5.cell (to' + x0.toNat)).trans (HCS.out x0)
        have e1 := (r5.cell (to' + x1.toNat)).trans (HCS.out x1)
        have e2 := (r5.cell (to' + x2.toNat)).trans (HCS.out x2)
        have e3 := (r5.cell (to' + x3.toNat)).trans (HCS.out x3)
        rw [at_boxL] at e0 e1 e2 e3
        have HR5 := Lib.hid r5
        clear hW5 hT5 hT5' HRow r5
        have y1x : ∃ y, sbox x1 ^^^ t = y := ⟨_, rfl⟩
        obtain ⟨y1, hy1⟩ := y1x
        have hx := x64 (sbox x1) t y1 hy1
        obtain ⟨y2, hy2⟩ : ∃ y, sbox x2 = y := ⟨_, rfl⟩
        obtain ⟨y3, hy3⟩ : ∃ y, sbox x3 = y := ⟨_, rfl⟩
        obtain ⟨y0, hy0⟩ : ∃ y, sbox x0 = y := ⟨_, rfl⟩
        rw [hy0] at e0
        rw [hy2] at e2
        rw [hy3] at e3
        have HWD := Lib.hid (show keyWord 16 out t = [y1, y2, y3, y0] by
          unfold keyWord
          obtain ⟨q0, q1, q2, q3⟩ := HKK.out
          obtain ⟨p0, p1, p2, p3⟩ := HX.out
          have := HI.out
          rw [HOL.out, if_pos (by omega), show I - 3 = k + 1 by omega, show I - 2 = k + 2 by omega, show I - 1 = k + 3 by omega, show I - 4 = k by omega, p0, p1, p2, p3, hy1, hy2, hy3, hy0])
        have HTT := Lib.hid (show turnStep 16 out t = dbl t by unfold turnStep; rw [HOL.out, if_pos (by have := HI.out; omega)])
        obtain ⟨s9, hs9⟩ : ∃ s, sbox x1 = s := ⟨_, rfl⟩
        rw [hs9] at e1 hx
        clear hy0 hy1 hy2 hy3 hs9
        refine region_draws_tail 26 (by kernel_rfl) (by kernel_rfl) ?_
        simp only [List.take_succ_cons, List.take_zero, List.drop_succ_cons, List.drop_zero]
        repeat (go_big_quiet_step (fail))
        refine wpQuiet_nil ?_
        rintro _ ⟨nq, rfl⟩
        have hrow := RowAt.new (W5.drewN nq) #[.int .i64 (y1.toNat : Int), .int .i64 (y2.toNat : Int), .int .i64 (y3.toNat : Int), .int .i64 (y0.toNat : Int)] 3
        have hkB : Keeps (fun _ => False) V ((W5.drewN nq).alloc (.cells #[.int .i64 (y1.toNat : Int), .int .i64 (y2.toNat : Int), .int .i64 (y3.toNat : Int), .int .i64 (y0.toNat : Int)] 3)) := (HKA.out.drewN nq).alloc _
        have HRow := Lib.hid hrow
        have HKB := Lib.hid hkB
        clear hrow hkB
        clear hx d0 d1 d2 d3 e0 e1 e2 e3
        go_wp2_with fail
        refine (rt2 t _).mono ?_
        rintro e w7 ⟨rfl, rfl⟩
        generalize hW6 : (W5.drewN nq).alloc (.cells #[.int .i64 (y1.toNat : Int), .int .i64 (y2.toNat : Int), .int .i64 (y3.toNat : Int), .int .i64 (y0.toNat : Int)] 3) = W6 at *
        obtain ⟨TW, hTW⟩ : ∃ TW, (W5.drewN nq).heap.size = TW := ⟨_, rfl⟩
        have hTW' : W5.heap.size = TW := hTW
        rw [hTW] at HRow
        rw [hTW']
        obtain ⟨csW, hcsW⟩ : ∃ csW : Array Value, #[.int .i64 (y1.toNat : Int), .int .i64 (y2.toNat : Int), .int .i64 (y3.toNat : Int), .int .i64 (y0.toNat : Int)] = csW := ⟨_, rfl⟩
        have HWC := Lib.hid (show ∀ j, j < 4 → csW[j]? = some (.int .i64 ((at8 [y1, y2, y3, y0] j).toNat : Int)) from fun j hj => by
          rw [← hcsW]
          obtain rfl | rfl | rfl | rfl : j = 0 ∨ j = 1 ∨ j = 2 ∨ j = 3 := by omega
          · rfl
          · rfl
          · rfl
          · rfl)
        rw [hcsW] at HRow
        have HRW := HRow
        have HRT := Lib.hid (HR.out.keeps HKB.out (fun h => h))
        have HO6 := Lib.hid (HO.out.keeps HKB.out (fun _ _ h => h))
        have HK6 := Lib.hid (HKR.out.trans HKB.out (fun _ _ h => h))
        obtain ⟨WD, hWD⟩ : ∃ WD : List UInt8, [y1, y2, y3, y0] = WD := ⟨_, rfl⟩
        rw [hWD] at HWD HWC
        clear hW6 hTW hTW' hcsW hWD HRow HKB HKA HR5 HO HKR HR W5
        go_wp2
        obtain ⟨p, hp⟩ : ∃ p, 4 * (i - 4) = p := ⟨_, rfl⟩
        obtain ⟨dd, hdd⟩ : ∃ d, i - 4 = d := ⟨_, rfl⟩
        have hpI : p + 16 = I := by omega
        have HP := Lib.hid hpI
        have qd : (i : Int) - 4 = (dd : Int) := by omega
        have qdw : IntKind.i64.wrap ((i : Int) - 4) = (dd : Int) := by rw [qd]; exact i64_f _ (by omega) (by omega)
        have q4 : 4 * (dd : Int) = (p : Int) := by omega
        have q4w : IntKind.i64.wrap (4 * (dd : Int)) = (p : Int) := by rw [q4]; exact i64_f _ (by omega) (by omega)
        have hp240 : p ≤ 240 := by omega
        have HQ := Lib.hid (And.intro qdw q4w)
        clear qd qdw q4 q4w hp hdd hpI
        go_loopw [9, 5] (fun u9 u5 wx => ∃ (j : Nat) (a' : Option Addr) (c' : Nat), j ≤ 4 ∧ u9 = .int .i64 j ∧ u5 = .slice a' (I + j) c' ∧ BOwn wx w.heap.size (.slice a' (I + j) c') (out ++ (List.range j).map (fun q => at8 WD q ^^^ at8 out (p + q))) ∧ RowAt wx TW csW 3 ∧ RowAt wx tb csT 3 ∧ Keeps (fun _ => False) w wx) (fun u9 _ _ => 4 - (intOf u9).toNat)
        case atStart => exact ⟨0, _, _, by omega, rfl, rfl, by simpa using HO6.out, HRW.out, HRT.out, HK6.out⟩
        case round =>
          obtain ⟨j, a', c', hj4, rfl, rfl, hox, hrw, hrt, hkx⟩ := hrel
          clear HO6 HRW HRT HK6
          have hlenj : (out ++ (List.range j).map (fun q => at8 WD q ^^^ at8 out (p + q))).length = I + j := by rw [List.length_append, HOL.out]; simp
          by_cases hjl : j < 4
          · obtain ⟨b9, o9, c9, e9, hc9, -, -, h9c⟩ := BAt.at8 hox.bat (by rw [hlenj]; have := HP.out; omega)
            simp only [Value.slice.injEq] at e9
            obtain ⟨rfl, -, rfl⟩ := e9
            have hcj := h9c (p + j) (by rw [hlenj]; have := HP.out; omega)
            have hat8 : at8 (out ++ (List.range j).map (fun q => at8 WD q ^^^ at8 out (p + q))) (p + j) = at8 out (p + j) := by
              unfold at8
              rw [List.getD_eq_getElem?_getD, List.getD_eq_getElem?_getD, List.getElem?_append_left (by rw [HOL.out]; have := HP.out; omega)]
            rw [hat8] at hcj
            have hwj : wr.cell? ⟨TW, j, none⟩ = some (.int .i64 ((at8 WD j).toNat : Int)) := (hrw.cell j).trans (HWC.out j hjl)
            obtain ⟨z, hz⟩ : ∃ z, at8 WD j ^^^ at8 out (p + j) = z := ⟨_, rfl⟩
            have hxx := x64 (at8 WD j) (at8 out (p + j)) z hz
            have hsn : out ++ (List.range (j + 1)).map (fun q => at8 WD q ^^^ at8 out (p + q)) = (out ++ (List.range j).map (fun q => at8 WD q ^^^ at8 out (p + q))) ++ [z] := by
              rw [List.range_succ, List.map_append, ← List.append_assoc, ← hz]
              rfl
            have HSN := Lib.hid hsn
            have hlz : ((out ++ (List.range j).map (fun q => at8 WD q ^^^ at8 out (p + q))) ++ [z]).length = I + (j + 1) := by rw [List.length_append, hlenj]; rfl
            have hbl := BAt.one wr.drew (z.toNat : Int) z 5 rfl
            have hka : Keeps (fun _ => False) wr (wr.drew.alloc (.cells #[.int .u8 (z.toNat : Int)] 5)) := ((Keeps.refl (fun _ => False) wr).drew).alloc _
            obtain ⟨v7, w7, hrun, hb7, hk7, -⟩ := run_append_bytes (ty := 25) (hox.keeps hka (fun _ _ h => h)) hbl (by rw [hlenj]; simp; omega) (by have := hka.size; have := hkx.size; omega)
            obtain ⟨a7, c7, rfl, -, -⟩ := BOwn.slice hb7
            rw [hlz] at hb7 hrun
            have hrw7 := (hrw.keeps hka (fun h => h)).keeps hk7 (fun e => own_apart hox hrw e)
            have hrt7 := (hrt.keeps hka (fun h => h)).keeps hk7 (fun e => own_apart hox hrt e)
            have hk7w := (hkx.trans hka (fun _ _ h => h)).from hk7 (fun b hb => (hox.block b hb).1)
            have HRUN := Lib.hid hrun
            have HB7 := Lib.hid hb7
            have HRW7 := Lib.hid hrw7
            have HRT7 := Lib.hid hrt7
            have HK7 := Lib.hid hk7w
            have ql : (p : Int) + (j : Int) < (I : Int) + (j : Int) := by have := HP.out; omega
            have q0 : (0 : Int) ≤ (p : Int) + (j : Int) := by omega
            have hj4I : (j : Int) < 4 := by omega
            have qb := i64_f ((p : Int) + (j : Int)) (by omega) (by omega)
            have hzf := u8_fit z
            have hwb := u8_i64 (at8 out (p + j))
            generalize (at8 WD j).toNat = xa at *
            generalize (at8 out (p + j)).toNat = xb at *
            generalize z.toNat = zn at *
            obtain ⟨pj, hpj⟩ : ∃ pj, p + j = pj := ⟨_, rfl⟩
            have hpjI : (p : Int) + (j : Int) = (pj : Int) := by omega
            rw [hpjI] at qb ql q0
            rw [hpj] at hcj
            clear hz hsn hlz hbl hka hrun hb7 hrw7 hrt7 hk7w hk7 hrw hrt hkx hox hat8 h9c hlenj hpj
            obtain ⟨qdw, q4w⟩ := HQ.out
            have qbw : IntKind.i64.wrap ((p : Int) + (j : Int)) = (pj : Int) := by rw [hpjI]; exact qb
            go_wp2
            refine region_T [17] (fun x => x.cell? ⟨TW, j, none⟩ = some (.int .i64 (xa : Int)) ∧ x.cell? ⟨b9, o9 + pj, none⟩ = some (.int .u8 (xb : Int))) (by kernel_rfl) ?_
            have hC : (fun x : World => x.cell? ⟨TW, j, none⟩ = some (.int .i64 (xa : Int)) ∧ x.cell? ⟨b9, o9 + pj, none⟩ = some (.int .u8 (xb : Int))) wr.drew := ⟨hwj, hcj⟩
            refine anyT_take0 (i := 0) (v := ?_) rfl (by kernel_rfl) (by kernel_rfl) (by kernel_rfl) (by kernel_rfl) (by kernel_rfl) (fun _ _ _ h => h) hC (.inl ⟨by rfl, fun _ _ => ?_⟩) ?_
            rotate_left 1
            · go_simp
              try with_reducible rfl
            simp only [Act.put, List.getElem_toArray, List.getElem_cons_succ, List.getElem_cons_zero, List.setIfInBounds_toArray, List.set_cons_zero, List.set_cons_succ]
            refine anyT_take0 (i := 1) (v := ?_) rfl (by kernel_rfl) (by kernel_rfl) (by kernel_rfl) (by kernel_rfl) (by kernel_rfl) (fun _ _ _ h => h) hC (.inl ⟨by rfl, fun _ _ => ?_⟩) ?_
            rotate_left 1
            · go_simp
              try with_reducible rfl
            simp only [Act.put, List.getElem_toArray, List.getElem_cons_succ, List.getElem_cons_zero, List.setIfInBounds_toArray, List.set_cons_zero, List.set_cons_succ]
            refine anyT_take0 (i := 2) (v := ?_) rfl (by kernel_rfl) (by kernel_rfl) (by kernel_rfl) (by kernel_rfl) (by kernel_rfl) (fun _ _ _ h => h) hC (.inl ⟨by rfl, fun _ _ => ?_⟩) ?_
            rotate_left 1
            · go_simp
              try with_reducible rfl
            simp only [Act.put, List.getElem_toArray, List.getElem_cons_succ, List.getElem_cons_zero, List.setIfInBounds_toArray, List.set_cons_zero, List.set_cons_succ]
            refine anyT_take0 (i := 3) (v := ?_) rfl (by kernel_rfl) (by kernel_rfl) (by kernel_rfl) (by kernel_rfl) (by kernel_rfl) (fun _ _ _ h => h) hC (.inl ⟨by rfl, fun _ _ => ?_⟩) ?_
            rotate_left 1
            · go_simp
              try with_reducible rfl
            simp only [Act.put, List.getElem_toArray, List.getElem_cons_succ, List.getElem_cons_zero, List.setIfInBounds_toArray, List.set_cons_zero, List.set_cons_succ]
            refine anyT_takeW (i := 4) (v := ?_) rfl (by kernel_rfl) (by kernel_rfl) (by kernel_rfl) (by kernel_rfl) (by kernel_rfl) (by kernel_rfl) (fun _ _ _ h => h) hC (.inl ⟨by rfl, fun w hCw => ?_⟩) ?_
            rotate_left 1
            · dsimp only at hCw
              go_simp
              try with_reducible rfl
            simp only [Act.put, List.getElem_toArray, List.getElem_cons_succ, List.getElem_cons_zero, List.setIfInBounds_toArray, List.set_cons_zero, List.set_cons_succ]
            refine anyT_take0 (i := 5) (v := ?_) rfl (by kernel_rfl) (by kernel_rfl) (by kernel_rfl) (by kernel_rfl) (by kernel_rfl) (fun _ _ _ h => h) hC (.inl ⟨by rfl, fun _ _ => ?_⟩) ?_
            rotate_left 1
            · go_simp
              try with_reducible rfl
            simp only [Act.put, List.getElem_toArray, List.getElem_cons_succ, List.getElem_cons_zero, List.setIfInBounds_toArray, List.set_cons_zero, List.set_cons_succ]
            refine anyT_take0 (i := 6) (v := ?_) rfl (by kernel_rfl) (by kernel_rfl) (by kernel_rfl) (by kernel_rfl) (by kernel_rfl) (fun _ _ _ h => h) hC (.inl ⟨by rfl, fun _ _ => ?_⟩) ?_
            rotate_left 1
            · go_simp
              try with_reducible rfl
            simp only [Act.put, List.getElem_toArray, List.getElem_cons_succ, List.getElem_cons_zero, List.setIfInBounds_toArray, List.set_cons_zero, List.set_cons_succ]
            refine anyT_take0 (i := 7) (v := ?_) rfl (by kernel_rfl) (by kernel_rfl) (by kernel_rfl) (by kernel_rfl) (by kernel_rfl) (fun _ _ _ h => h) hC (.inl ⟨by rfl, fun _ _ => ?_⟩) ?_
            rotate_left 1
            · go_simp
              try with_reducible rfl
            simp only [Act.put, List.getElem_toArray, List.getElem_cons_succ, List.getElem_cons_zero, List.setIfInBounds_toArray, List.set_cons_zero, List.set_cons_succ]
            refine anyT_take0 (i := 8) (v := ?_) rfl (by kernel_rfl) (by kernel_rfl) (by kernel_rfl) (by kernel_rfl) (by kernel_rfl) (fun _ _ _ h => h) hC (.inl ⟨by rfl, fun _ _ => ?_⟩) ?_
            rotate_left 1
            · go_simp
              try with_reducible rfl
            simp only [Act.put, List.getElem_toArray, List.getElem_cons_succ, List.getElem_cons_zero, List.setIfInBounds_toArray, List.set_cons_zero, List.set_cons_succ]
            refine anyT_take0 (i := 9) (v := ?_) rfl (by kernel_rfl) (by kernel_rfl) (by kernel_rfl) (by kernel_rfl) (by kernel_rfl) (fun _ _ _ h => h) hC (.inl ⟨by rfl, fun _ _ => ?_⟩) ?_
            rotate_left 1
            · go_simp
              try with_reducible rfl
            simp only [Act.put, List.getElem_toArray, List.getElem_cons_succ, List.getElem_cons_zero, List.setIfInBounds_toArray, List.set_cons_zero, List.set_cons_succ]
            refine anyT_take0 (i := 10) (v := ?_) rfl (by kernel_rfl) (by kernel_rfl) (by kernel_rfl) (by kernel_rfl) (by kernel_rfl) (fun _ _ _ h => h) hC (.inl ⟨by rfl, fun _ _ => ?_⟩) ?_
            rotate_left 1
            · go_simp
              try with_reducible rfl
            simp only [Act.put, List.getElem_toArray, List.getElem_cons_succ, List.getElem_cons_zero, List.setIfInBounds_toArray, List.set_cons_zero, List.set_cons_succ]
            refine anyT_take0 (i := 11) (v := ?_) rfl (by kernel_rfl) (by kernel_rfl) (by kernel_rfl) (by kernel_rfl) (by kernel_rfl) (fun _ _ _ h => h) hC (.inl ⟨by rfl, fun _ _ => ?_⟩) ?_
            rotate_left 1
            · go_simp
              try with_reducible rfl
            simp only [Act.put, List.getElem_toArray, List.getElem_cons_succ, List.getElem_cons_zero, List.setIfInBounds_toArray, List.set_cons_zero, List.set_cons_succ]
            refine anyT_take0 (i := 12) (v := ?_) rfl (by kernel_rfl) (by kernel_rfl) (by kernel_rfl) (by kernel_rfl) (by kernel_rfl) (fun _ _ _ h => h) hC (.inl ⟨by rfl, fun _ _ => ?_⟩) ?_
            rotate_left 1
            · go_simp
              try with_reducible rfl
            simp only [Act.put, List.getElem_toArray, List.getElem_cons_succ, List.getElem_cons_zero, List.setIfInBounds_toArray, List.set_cons_zero, List.set_cons_succ]
            refine anyT_takeW (i := 13) (v := ?_) rfl (by kernel_rfl) (by kernel_rfl) (by kernel_rfl) (by kernel_rfl) (by kernel_rfl) (by kernel_rfl) (fun _ _ _ h => h) hC (.inl ⟨by rfl, fun w hCw => ?_⟩) ?_
            rotate_left 1
            · dsimp only at hCw
              go_simp
              try with_reducible rfl
            simp only [Act.put, List.getElem_toArray, List.getElem_cons_succ, List.getElem_cons_zero, List.setIfInBounds_toArray, List.set_cons_zero, List.set_cons_succ]
            refine anyT_take0 (i := 14) (v := ?_) rfl (by kernel_rfl) (by kernel_rfl) (by kernel_rfl) (by kernel_rfl) (by kernel_rfl) (fun _ _ _ h => h) hC (.inl ⟨by rfl, fun _ _ => ?_⟩) ?_
            rotate_left 1
            · go_simp
              try with_reducible rfl
            simp only [Act.put, List.getElem_toArray, List.getElem_cons_succ, List.getElem_cons_zero, List.setIfInBounds_toArray, List.set_cons_zero, List.set_cons_succ]
            refine anyT_take0 (i := 15) (v := ?_) rfl (by kernel_rfl) (by kernel_rfl) (by kernel_rfl) (by kernel_rfl) (by kernel_rfl) (fun _ _ _ h => h) hC (.inl ⟨by rfl, fun _ _ => ?_⟩) ?_
            rotate_left 1
            · go_simp
              try with_reducible rfl
            simp only [Act.put, List.getElem_toArray, List.getElem_cons_succ, List.getElem_cons_zero, List.setIfInBounds_toArray, List.set_cons_zero, List.set_cons_succ]
            refine anyT_take0 (i := 16) (v := ?_) rfl (by kernel_rfl) (by kernel_rfl) (by kernel_rfl) (by kernel_rfl) (by kernel_rfl) (fun _ _ _ h => h) hC (.inl ⟨by rfl, fun _ _ => ?_⟩) ?_
            rotate_left 1
            · go_simp
              try with_reducible rfl
            simp only [Act.put, List.getElem_toArray, List.getElem_cons_succ, List.getElem_cons_zero, List.setIfInBounds_toArray, List.set_cons_zero, List.set_cons_succ]
            refine anyT_tail (k := 17) (by rfl) (by kernel_rfl) (by simp) rfl rfl (by kernel_rfl) ?_
            go_wp2_with (at_builtin; refine Lib.wpList_append_run _ rfl _ _ _ _ rfl _ _ rfl rfl _ _ HRUN.out ?_)
            go_roundw
            case rel => exact ⟨j + 1, _, _, hjl, by go_num, rfl, by rw [HSN.out]; exact HB7.out, HRW7.out, HRT7.out, HK7.out⟩
            case measure => clear qdw q4w qbw qb hzf hwb; simp [intOf]; omega
          · obtain rfl : j = 4 := by omega
            have HOX := Lib.hid hox
            have HRX := Lib.hid hrt
            have HKX := Lib.hid hkx
            have hfin : keysF 16 f (out ++ (List.range 4).map (fun q => at8 WD q ^^^ at8 out (p + q))) (dbl t) = keysOf key := by
              rw [← HF.out]
              show _ = keysF 16 f (keyStep 16 out t) (turnStep 16 out t)
              rw [HTT.out]
              unfold keyStep
              rw [HWD.out, HOL.out, show I - 16 = p by have := HP.out; omega]
            have HFIN := Lib.hid hfin
            have hl9 : (out ++ (List.range 4).map (fun q => at8 WD q ^^^ at8 out (p + q))).length = 4 * (i + 1) := by rw [hlenj, ← HI.out]; omega
            have HL9 := Lib.hid hl9
            have hI4 : I + 4 = 4 * (i + 1) := by rw [← HI.out]; omega
            rw [hI4] at HOX ⊢
            clear hox hrt hrw hkx hfin hlenj hl9 hI4
            go_wp2
            go_roundw
            case rel => exact ⟨f, i + 1, _, (dbl t), _, _, rfl, rfl, by go_num, HL9.out, by omega, by omega, HOX.out, HRX.out, HFIN.out, HKX.out⟩
            case measure => simp [intOf]; omega
      · have hmI : ¬ (i : Int) % 4 = 0 := by omega
        by_cases hm2 : (16 : Nat) = 32 ∧ i % 8 = 4
        · try (exact absurd hm2.1 (by decide))
          all_goals
            have hmJ : (i : Int) % 8 = 4 := by omega
            go_wp2_with fail
            generalize hW5 : (V.drewN nq).alloc (.cells #[.int .i64 (x0.toNat : Int), .int .i64 (x1.toNat : Int), .int .i64 (x2.toNat : Int), .int .i64 (x3.toNat : Int)] 3) = W5 at *
            obtain ⟨T5, hT5⟩ : ∃ T5, (V.drewN nq).heap.size = T5 := ⟨_, rfl⟩
            have hT5' : V.heap.size = T5 := hT5
            rw [hT5] at HRow
            rw [hT5']
            have r5 := HR.out.keeps HKA.out (fun h => h)
            have d0 := HRow.out.cell 0
            have d1 := HRow.out.cell 1
            have d2 := HRow.out.cell 2
            have d3 := HRow.out.cell 3
            have e0 := (r5.cell (to' + x0.toNat)).trans (HCS.out x0)
            have e1 := (r5.cell (to' + x1.toNat)).trans (HCS.out x1)
            have e2 := (r5.cell (to' + x2.toNat)).trans (HCS.out x2)
            have e3 := (r5.cell (to' + x3.toNat)).trans (HCS.out x3)
            rw [at_boxL] at e0 e1 e2 e3
            have HR5 := Lib.hid r5
            clear hW5 hT5 hT5' HRow r5
            obtain ⟨y1, hy1⟩ : ∃ y, sbox x1 = y := ⟨_, rfl⟩
            obtain ⟨y2, hy2⟩ : ∃ y, sbox x2 = y := ⟨_, rfl⟩
            obtain ⟨y3, hy3⟩ : ∃ y, sbox x3 = y := ⟨_, rfl⟩
            obtain ⟨y0, hy0⟩ : ∃ y, sbox x0 = y := ⟨_, rfl⟩
            rw [hy0] at e0
            rw [hy1] at e1
            rw [hy2] at e2
            rw [hy3] at e3
            have HWD := Lib.hid (show keyWord 16 out t = [y0, y1, y2, y3] by
              unfold keyWord
              obtain ⟨q0, q1, q2, q3⟩ := HKK.out
              obtain ⟨p0, p1, p2, p3⟩ := HX.out
              have := HI.out
              rw [HOL.out, if_neg (by omega), if_pos ⟨rfl, by omega⟩, show I - 3 = k + 1 by omega, show I - 2 = k + 2 by omega, show I - 1 = k + 3 by omega, show I - 4 = k by omega, p0, p1, p2, p3, hy1, hy2, hy3, hy0])
            have HTT := Lib.hid (show turnStep 16 out t = t by unfold turnStep; rw [HOL.out, if_neg (by have := HI.out; omega)])
            clear hy0 hy1 hy2 hy3 hm2
            refine region_draws_tail 24 (by kernel_rfl) (by kernel_rfl) ?_
            simp only [List.take_succ_cons, List.take_zero, List.drop_succ_cons, List.drop_zero]
            repeat (go_big_quiet_step (fail))
            refine wpQuiet_nil ?_
            rintro _ ⟨nq, rfl⟩
            have hrow := RowAt.new (W5.drewN nq) #[.int .i64 (y0.toNat : Int), .int .i64 (y1.toNat : Int), .int .i64 (y2.toNat : Int), .int .i64 (y3.toNat : Int)] 3
            have hkB : Keeps (fun _ => False) V ((W5.drewN nq).alloc (.cells #[.int .i64 (y0.toNat : Int), .int .i64 (y1.toNat : Int), .int .i64 (y2.toNat : Int), .int .i64 (y3.toNat : Int)] 3)) := (HKA.out.drewN nq).alloc _
            have HRow := Lib.hid hrow
            have HKB := Lib.hid hkB
            clear hrow hkB
            clear d0 d1 d2 d3 e0 e1 e2 e3
            go_wp2
            generalize hW6 : (W5.drewN nq).alloc (.cells #[.int .i64 (y0.toNat : Int), .int .i64 (y1.toNat : Int), .int .i64 (y2.toNat : Int), .int .i64 (y3.toNat : Int)] 3) = W6 at *
            obtain ⟨TW, hTW⟩ : ∃ TW, (W5.drewN nq).heap.size = TW := ⟨_, rfl⟩
            have hTW' : W5.heap.size = TW := hTW
            rw [hTW] at HRow
            rw [hTW']
            obtain ⟨csW, hcsW⟩ : ∃ csW : Array Value, #[.int .i64 (y0.toNat : Int), .int .i64 (y1.toNat : Int), .int .i64 (y2.toNat : Int), .int .i64 (y3.toNat : Int)] = csW := ⟨_, rfl⟩
            have HWC := Lib.hid (show ∀ j, j < 4 → csW[j]? = some (.int .i64 ((at8 [y0, y1, y2, y3] j).toNat : Int)) from fun j hj => by
              rw [← hcsW]
              obtain rfl | rfl | rfl | rfl : j = 0 ∨ j = 1 ∨ j = 2 ∨ j = 3 := by omega
              · rfl
              · rfl
              · rfl
              · rfl)
            rw [hcsW] at HRow
            have HRW := HRow
            have HRT := Lib.hid (HR.out.keeps HKB.out (fun h => h))
            have HO6 := Lib.hid (HO.out.keeps HKB.out (fun _ _ h => h))
            have HK6 := Lib.hid (HKR.out.trans HKB.out (fun _ _ h => h))
            obtain ⟨WD, hWD⟩ : ∃ WD : List UInt8, [y0, y1, y2, y3] = WD := ⟨_, rfl⟩
            rw [hWD] at HWD HWC
            clear hW6 hTW hTW' hcsW hWD HRow HKB HKA HR5 HO HKR HR W5
            obtain ⟨p, hp⟩ : ∃ p, 4 * (i - 4) = p := ⟨_, rfl⟩
            obtain ⟨dd, hdd⟩ : ∃ d, i - 4 = d := ⟨_, rfl⟩
            have hpI : p + 16 = I := by omega
            have HP := Lib.hid hpI
            have qd : (i : Int) - 4 = (dd : Int) := by omega
            have qdw : IntKind.i64.wrap ((i : Int) - 4) = (dd : Int) := by rw [qd]; exact i64_f _ (by omega) (by omega)
            have q4 : 4 * (dd : Int) = (p : Int) := by omega
            have q4w : IntKind.i64.wrap (4 * (dd : Int)) = (p : Int) := by rw [q4]; exact i64_f _ (by omega) (by omega)
            have hp240 : p ≤ 240 := by omega
            have HQ := Lib.hid (And.intro qdw q4w)
            clear qd qdw q4 q4w hp hdd hpI
            go_loopw [9, 5] (fun u9 u5 wx => ∃ (j : Nat) (a' : Option Addr) (c' : Nat), j ≤ 4 ∧ u9 = .int .i64 j ∧ u5 = .slice a' (I + j) c' ∧ BOwn wx w.heap.size (.slice a' (I + j) c') (out ++ (List.range j).map (fun q => at8 WD q ^^^ at8 out (p + q))) ∧ RowAt wx TW csW 3 ∧ RowAt wx tb csT 3 ∧ Keeps (fun _ => False) w wx) (fun u9 _ _ => 4 - (intOf u9).toNat)
            case atStart => exact ⟨0, _, _, by omega, rfl, rfl, by simpa using HO6.out, HRW.out, HRT.out, HK6.out⟩
            case round =>
              obtain ⟨j, a', c', hj4, rfl, rfl, hox, hrw, hrt, hkx⟩ := hrel
              clear HO6 HRW HRT HK6
              have hlenj : (out ++ (List.range j).map (fun q => at8 WD q ^^^ at8 out (p + q))).length = I + j := by rw [List.length_append, HOL.out]; simp
              by_cases hjl : j < 4
              · obtain ⟨b9, o9, c9, e9, hc9, -, -, h9c⟩ := BAt.at8 hox.bat (by rw [hlenj]; have := HP.out; omega)
                simp only [Value.slice.injEq] at e9
                obtain ⟨rfl, -, rfl⟩ := e9
                have hcj := h9c (p + j) (by rw [hlenj]; have := HP.out; omega)
                have hat8 : at8 (out ++ (List.range j).map (fun q => at8 WD q ^^^ at8 out (p + q))) (p + j) = at8 out (p + j) := by
                  unfold at8
                  rw [List.getD_eq_getElem?_getD, List.getD_eq_getElem?_getD, List.getElem?_append_left (by rw [HOL.out]; have := HP.out; omega)]
                rw [hat8] at hcj
                have hwj : wr.cell? ⟨TW, j, none⟩ = some (.int .i64 ((at8 WD j).toNat : Int)) := (hrw.cell j).trans (HWC.out j hjl)
                obtain ⟨z, hz⟩ : ∃ z, at8 WD j ^^^ at8 out (p + j) = z := ⟨_, rfl⟩
                have hxx := x64 (at8 WD j) (at8 out (p + j)) z hz
                have hsn : out ++ (List.range (j + 1)).map (fun q => at8 WD q ^^^ at8 out (p + q)) = (out ++ (List.range j).map (fun q => at8 WD q ^^^ at8 out (p + q))) ++ [z] := by
                  rw [List.range_succ, List.map_append, ← List.append_assoc, ← hz]
                  rfl
                have HSN := Lib.hid hsn
                have hlz : ((out ++ (List.range j).map (fun q => at8 WD q ^^^ at8 out (p + q))) ++ [z]).length = I + (j + 1) := by rw [List.length_append, hlenj]; rfl
                have hbl := BAt.one wr.drew (z.toNat : Int) z 5 rfl
                have hka : Keeps (fun _ => False) wr (wr.drew.alloc (.cells #[.int .u8 (z.toNat : Int)] 5)) := ((Keeps.refl (fun _ => False) wr).drew).alloc _
                obtain ⟨v7, w7, hrun, hb7, hk7, -⟩ := run_append_bytes (ty := 25) (hox.keeps hka (fun _ _ h => h)) hbl (by rw [hlenj]; simp; omega) (by have := hka.size; have := hkx.size; omega)
                obtain ⟨a7, c7, rfl, -, -⟩ := BOwn.slice hb7
                rw [hlz] at hb7 hrun
                have hrw7 := (hrw.keeps hka (fun h => h)).keeps hk7 (fun e => own_apart hox hrw e)
                have hrt7 := (hrt.keeps hka (fun h => h)).keeps hk7 (fun e => own_apart hox hrt e)
                have hk7w := (hkx.trans hka (fun _ _ h => h)).from hk7 (fun b hb => (hox.block b hb).1)
                have HRUN := Lib.hid hrun
                have HB7 := Lib.hid hb7
                have HRW7 := Lib.hid hrw7
                have HRT7 := Lib.hid hrt7
                have HK7 := Lib.hid hk7w
                have ql : (p : Int) + (j : Int) < (I : Int) + (j : Int) := by have := HP.out; omega
                have q0 : (0 : Int) ≤ (p : Int) + (j : Int) := by omega
                have hj4I : (j : Int) < 4 := by omega
                have qb := i64_f ((p : Int) + (j : Int)) (by omega) (by omega)
                have hzf := u8_fit z
                have hwb := u8_i64 (at8 out (p + j))
                generalize (at8 WD j).toNat = xa at *
                generalize (at8 out (p + j)).toNat = xb at *
                generalize z.toNat = zn at *
                obtain ⟨pj, hpj⟩ : ∃ pj, p + j = pj := ⟨_, rfl⟩
                have hpjI : (p : Int) + (j : Int) = (pj : Int) := by omega
                rw [hpjI] at qb ql q0
                rw [hpj] at hcj
                clear hz hsn hlz hbl hka hrun hb7 hrw7 hrt7 hk7w hk7 hrw hrt hkx hox hat8 h9c hlenj hpj
                obtain ⟨qdw, q4w⟩ := HQ.out
                have qbw : IntKind.i64.wrap ((p : Int) + (j : Int)) = (pj : Int) := by rw [hpjI]; exact qb
                go_wp2
                refine region_T [17] (fun x => x.cell? ⟨TW, j, none⟩ = some (.int .i64 (xa : Int)) ∧ x.cell? ⟨b9, o9 + pj, none⟩ = some (.int .u8 (xb : Int))) (by kernel_rfl) ?_
                have hC : (fun x : World => x.cell? ⟨TW, j, none⟩ = some (.int .i64 (xa : Int)) ∧ x.cell? ⟨b9, o9 + pj, none⟩ = some (.int .u8 (xb : Int))) wr.drew := ⟨hwj, hcj⟩
                refine anyT_take0 (i := 0) (v := ?_) rfl (by kernel_rfl) (by kernel_rfl) (by kernel_rfl) (by kernel_rfl) (by kernel_rfl) (fun _ _ _ h => h) hC (.inl ⟨by rfl, fun _ _ => ?_⟩) ?_
                rotate_left 1
                · go_simp
                  try with_reducible rfl
                simp only [Act.put, List.getElem_toArray, List.getElem_cons_succ, List.getElem_cons_zero, List.setIfInBounds_toArray, List.set_cons_zero, List.set_cons_succ]
                refine anyT_take0 (i := 1) (v := ?_) rfl (by kernel_rfl) (by kernel_rfl) (by kernel_rfl) (by kernel_rfl) (by kernel_rfl) (fun _ _ _ h => h) hC (.inl ⟨by rfl, fun _ _ => ?_⟩) ?_
                rotate_left 1
                · go_simp
                  try with_reducible rfl
                simp only [Act.put, List.getElem_toArray, List.getElem_cons_succ, List.getElem_cons_zero, List.setIfInBounds_toArray, List.set_cons_zero, List.set_cons_succ]
                refine anyT_take0 (i := 2) (v := ?_) rfl (by kernel_rfl) (by kernel_rfl) (by kernel_rfl) (by kernel_rfl) (by kernel_rfl) (fun _ _ _ h => h) hC (.inl ⟨by rfl, fun _ _ => ?_⟩) ?_
                rotate_left 1
                · go_simp
                  try with_reducible rfl
                simp only [Act.put, List.getElem_toArray, List.getElem_cons_succ, List.getElem_cons_zero, List.setIfInBounds_toArray, List.set_cons_zero, List.set_cons_succ]
                refine anyT_take0 (i := 3) (v := ?_) rfl (by kernel_rfl) (by kernel_rfl) (by kernel_rfl) (by kernel_rfl) (by kernel_rfl) (fun _ _ _ h => h) hC (.inl ⟨by rfl, fun _ _ => ?_⟩) ?_
                rotate_left 1
                · go_simp
                  try with_reducible rfl
                simp only [Act.put, List.getElem_toArray, List.getElem_cons_succ, List.getElem_cons_zero, List.setIfInBounds_toArray, List.set_cons_zero, List.set_cons_succ]
                refine anyT_takeW (i := 4) (v := ?_) rfl (by kernel_rfl) (by kernel_rfl) (by kernel_rfl) (by kernel_rfl) (by kernel_rfl) (by kernel_rfl) (fun _ _ _ h => h) hC (.inl ⟨by rfl, fun w hCw => ?_⟩) ?_
                rotate_left 1
                · dsimp only at hCw
                  go_simp
                  try with_reducible rfl
                simp only [Act.put, List.getElem_toArray, List.getElem_cons_succ, List.getElem_cons_zero, List.setIfInBounds_toArray, List.set_cons_zero, List.set_cons_succ]
                refine anyT_take0 (i := 5) (v := ?_) rfl (by kernel_rfl) (by kernel_rfl) (by kernel_rfl) (by kernel_rfl) (by kernel_rfl) (fun _ _ _ h => h) hC (.inl ⟨by rfl, fun _ _ => ?_⟩) ?_
                rotate_left 1
                · go_simp
                  try with_reducible rfl
                simp only [Act.put, List.getElem_toArray, List.getElem_cons_succ, List.getElem_cons_zero, List.setIfInBounds_toArray, List.set_cons_zero, List.set_cons_succ]
                refine anyT_take0 (i := 6) (v := ?_) rfl (by kernel_rfl) (by kernel_rfl) (by kernel_rfl) (by kernel_rfl) (by kernel_rfl) (fun _ _ _ h => h) hC (.inl ⟨by rfl, fun _ _ => ?_⟩) ?_
                rotate_left 1
                · go_simp
                  try with_reducible rfl
                simp only [Act.put, List.getElem_toArray, List.getElem_cons_succ, List.getElem_cons_zero, List.setIfInBounds_toArray, List.set_cons_zero, List.set_cons_succ]
                refine anyT_take0 (i := 7) (v := ?_) rfl (by kernel_rfl) (by kernel_rfl) (by kernel_rfl) (by kernel_rfl) (by kernel_rfl) (fun _ _ _ h => h) hC (.inl ⟨by rfl, fun _ _ => ?_⟩) ?_
                rotate_left 1
                · go_simp
                  try with_reducible rfl
                simp only [Act.put, List.getElem_toArray, List.getElem_cons_succ, List.getElem_cons_zero, List.setIfInBounds_toArray, List.set_cons_zero, List.set_cons_succ]
                refine anyT_take0 (i := 8) (v := ?_) rfl (by kernel_rfl) (by kernel_rfl) (by kernel_rfl) (by kernel_rfl) (by kernel_rfl) (fun _ _ _ h => h) hC (.inl ⟨by rfl, fun _ _ => ?_⟩) ?_
                rotate_left 1
                · go_simp
                  try with_reducible rfl
                simp only [Act.put, List.getElem_toArray, List.getElem_cons_succ, List.getElem_cons_zero, List.setIfInBounds_toArray, List.set_cons_zero, List.set_cons_succ]
                refine anyT_take0 (i := 9) (v := ?_) rfl (by kernel_rfl) (by kernel_rfl) (by kernel_rfl) (by kernel_rfl) (by kernel_rfl) (fun _ _ _ h => h) hC (.inl ⟨by rfl, fun _ _ => ?_⟩) ?_
                rotate_left 1
                · go_simp
                  try with_reducible rfl
                simp only [Act.put, List.getElem_toArray, List.getElem_cons_succ, List.getElem_cons_zero, List.setIfInBounds_toArray, List.set_cons_zero, List.set_cons_succ]
                refine anyT_take0 (i := 10) (v := ?_) rfl (by kernel_rfl) (by kernel_rfl) (by kernel_rfl) (by kernel_rfl) (by kernel_rfl) (fun _ _ _ h => h) hC (.inl ⟨by rfl, fun _ _ => ?_⟩) ?_
                rotate_left 1
                · go_simp
                  try with_reducible rfl
                simp only [Act.put, List.getElem_toArray, List.getElem_cons_succ, List.getElem_cons_zero, List.setIfInBounds_toArray, List.set_cons_zero, List.set_cons_succ]
                refine anyT_take0 (i := 11) (v := ?_) rfl (by kernel_rfl) (by kernel_rfl) (by kernel_rfl) (by kernel_rfl) (by kernel_rfl) (fun _ _ _ h => h) hC (.inl ⟨by rfl, fun _ _ => ?_⟩) ?_
                rotate_left 1
                · go_simp
                  try with_reducible rfl
                simp only [Act.put, List.getElem_toArray, List.getElem_cons_succ, List.getElem_cons_zero, List.setIfInBounds_toArray, List.set_cons_zero, List.set_cons_succ]
                refine anyT_take0 (i := 12) (v := ?_) rfl (by kernel_rfl) (by kernel_rfl) (by kernel_rfl) (by kernel_rfl) (by kernel_rfl) (fun _ _ _ h => h) hC (.inl ⟨by rfl, fun _ _ => ?_⟩) ?_
                rotate_left 1
                · go_simp
                  try with_reducible rfl
                simp only [Act.put, List.getElem_toArray, List.getElem_cons_succ, List.getElem_cons_zero, List.setIfInBounds_toArray, List.set_cons_zero, List.set_cons_succ]
                refine anyT_takeW (i := 13) (v := ?_) rfl (by kernel_rfl) (by kernel_rfl) (by kernel_rfl) (by kernel_rfl) (by kernel_rfl) (by kernel_rfl) (fun _ _ _ h => h) hC (.inl ⟨by rfl, fun w hCw => ?_⟩) ?_
                rotate_left 1
                · dsimp only at hCw
                  go_simp
                  try with_reducible rfl
                simp only [Act.put, List.getElem_toArray, List.getElem_cons_succ, List.getElem_cons_zero, List.setIfInBounds_toArray, List.set_cons_zero, List.set_cons_succ]
                refine anyT_take0 (i := 14) (v := ?_) rfl (by kernel_rfl) (by kernel_rfl) (by kernel_rfl) (by kernel_rfl) (by kernel_rfl) (fun _ _ _ h => h) hC (.inl ⟨by rfl, fun _ _ => ?_⟩) ?_
                rotate_left 1
                · go_simp
                  try with_reducible rfl
                simp only [Act.put, List.getElem_toArray, List.getElem_cons_succ, List.getElem_cons_zero, List.setIfInBounds_toArray, List.set_cons_zero, List.set_cons_succ]
                refine anyT_take0 (i := 15) (v := ?_) rfl (by kernel_rfl) (by kernel_rfl) (by kernel_rfl) (by kernel_rfl) (by kernel_rfl) (fun _ _ _ h => h) hC (.inl ⟨by rfl, fun _ _ => ?_⟩) ?_
                rotate_left 1
                · go_simp
                  try with_reducible rfl
                simp only [Act.put, List.getElem_toArray, List.getElem_cons_succ, List.getElem_cons_zero, List.setIfInBounds_toArray, List.set_cons_zero, List.set_cons_succ]
                refine anyT_take0 (i := 16) (v := ?_) rfl (by kernel_rfl) (by kernel_rfl) (by kernel_rfl) (by kernel_rfl) (by kernel_rfl) (fun _ _ _ h => h) hC (.inl ⟨by rfl, fun _ _ => ?_⟩) ?_
                rotate_left 1
                · go_simp
                  try with_reducible rfl
                simp only [Act.put, List.getElem_toArray, List.getElem_cons_succ, List.getElem_cons_zero, List.setIfInBounds_toArray, List.set_cons_zero, List.set_cons_succ]
                refine anyT_tail (k := 17) (by rfl) (by kernel_rfl) (by simp) rfl rfl (by kernel_rfl) ?_
                go_wp2_with (at_builtin; refine Lib.wpList_append_run _ rfl _ _ _ _ rfl _ _ rfl rfl _ _ HRUN.out ?_)
                go_roundw
                case rel => exact ⟨j + 1, _, _, hjl, by go_num, rfl, by rw [HSN.out]; exact HB7.out, HRW7.out, HRT7.out, HK7.out⟩
                case measure => clear qdw q4w qbw qb hzf hwb; simp [intOf]; omega
              · obtain rfl : j = 4 := by omega
                have HOX := Lib.hid hox
                have HRX := Lib.hid hrt
                have HKX := Lib.hid hkx
                have hfin : keysF 16 f (out ++ (List.range 4).map (fun q => at8 WD q ^^^ at8 out (p + q))) t = keysOf key := by
                  rw [← HF.out]
                  show _ = keysF 16 f (keyStep 16 out t) (turnStep 16 out t)
                  rw [HTT.out]
                  unfold keyStep
                  rw [HWD.out, HOL.out, show I - 16 = p by have := HP.out; omega]
                have HFIN := Lib.hid hfin
                have hl9 : (out ++ (List.range 4).map (fun q => at8 WD q ^^^ at8 out (p + q))).length = 4 * (i + 1) := by rw [hlenj, ← HI.out]; omega
                have HL9 := Lib.hid hl9
                have hI4 : I + 4 = 4 * (i + 1) := by rw [← HI.out]; omega
                rw [hI4] at HOX ⊢
                clear hox hrt hrw hkx hfin hlenj hl9 hI4
                go_wp2
                go_roundw
                case rel => exact ⟨f, i + 1, _, t, _, _, rfl, rfl, by go_num, HL9.out, by omega, by omega, HOX.out, HRX.out, HFIN.out, HKX.out⟩
                case measure => simp [intOf]; omega
        · have hmJ : (16 : Int) = 16 ∨ ¬ (i : Int) % 8 = 4 := by omega
          have HWD := Lib.hid (show keyWord 16 out t = [x0, x1, x2, x3] by
            unfold keyWord
            obtain ⟨q0, q1, q2, q3⟩ := HKK.out
            obtain ⟨p0, p1, p2, p3⟩ := HX.out
            have := HI.out
            rw [HOL.out, if_neg (by omega), if_neg (by rintro ⟨h1, h2⟩; exact hm2 ⟨h1, by omega⟩), show I - 3 = k + 1 by omega, show I - 2 = k + 2 by omega, show I - 1 = k + 3 by omega, show I - 4 = k by omega, p0, p1, p2, p3])
          have HTT := Lib.hid (show turnStep 16 out t = t by unfold turnStep; rw [HOL.out, if_neg (by have := HI.out; omega)])
          have hmK : 16 = 16 ∨ ¬ (i : Int) % 8 = 4 := by omega
          clear hm2 hmJ
          go_wp2_with fail
          generalize hW5 : (V.drewN nq).alloc (.cells #[.int .i64 (x0.toNat : Int), .int .i64 (x1.toNat : Int), .int .i64 (x2.toNat : Int), .int .i64 (x3.toNat : Int)] 3) = W5 at *
          obtain ⟨TW, hTW⟩ : ∃ TW, (V.drewN nq).heap.size = TW := ⟨_, rfl⟩
          have hTW' : V.heap.size = TW := hTW
          rw [hTW] at HRow
          rw [hTW']
          obtain ⟨csW, hcsW⟩ : ∃ csW : Array Value, #[.int .i64 (x0.toNat : Int), .int .i64 (x1.toNat : Int), .int .i64 (x2.toNat : Int), .int .i64 (x3.toNat : Int)] = csW := ⟨_, rfl⟩
          have HWC := Lib.hid (show ∀ j, j < 4 → csW[j]? = some (.int .i64 ((at8 [x0, x1, x2, x3] j).toNat : Int)) from fun j hj => by
            rw [← hcsW]
            obtain rfl | rfl | rfl | rfl : j = 0 ∨ j = 1 ∨ j = 2 ∨ j = 3 := by omega
            · rfl
            · rfl
            · rfl
            · rfl)
          rw [hcsW] at HRow
          have HRW := HRow
          have HRT := Lib.hid (HR.out.keeps HKA.out (fun h => h))
          have HO6 := Lib.hid (HO.out.keeps HKA.out (fun _ _ h => h))
          have HK6 := Lib.hid (HKR.out.trans HKA.out (fun _ _ h => h))
          obtain ⟨WD, hWD⟩ : ∃ WD : List UInt8, [x0, x1, x2, x3] = WD := ⟨_, rfl⟩
          rw [hWD] at HWD HWC
          clear hW5 hTW hTW' hcsW hWD HRow HKA HO HKR HR
          obtain ⟨p, hp⟩ : ∃ p, 4 * (i - 4) = p := ⟨_, rfl⟩
          obtain ⟨dd, hdd⟩ : ∃ d, i - 4 = d := ⟨_, rfl⟩
          have hpI : p + 16 = I := by omega
          have HP := Lib.hid hpI
          have qd : (i : Int) - 4 = (dd : Int) := by omega
          have qdw : IntKind.i64.wrap ((i : Int) - 4) = (dd : Int) := by rw [qd]; exact i64_f _ (by omega) (by omega)
          have q4 : 4 * (dd : Int) = (p : Int) := by omega
          have q4w : IntKind.i64.wrap (4 * (dd : Int)) = (p : Int) := by rw [q4]; exact i64_f _ (by omega) (by omega)
          have hp240 : p ≤ 240 := by omega
          have HQ := Lib.hid (And.intro qdw q4w)
          clear qd qdw q4 q4w hp hdd hpI
          go_loopw [9, 5] (fun u9 u5 wx => ∃ (j : Nat) (a' : Option Addr) (c' : Nat), j ≤ 4 ∧ u9 = .int .i64 j ∧ u5 = .slice a' (I + j) c' ∧ BOwn wx w.heap.size (.slice a' (I + j) c') (out ++ (List.range j).map (fun q => at8 WD q ^^^ at8 out (p + q))) ∧ RowAt wx TW csW 3 ∧ RowAt wx tb csT 3 ∧ Keeps (fun _ => False) w wx) (fun u9 _ _ => 4 - (intOf u9).toNat)
          case atStart => exact ⟨0, _, _, by omega, rfl, rfl, by simpa using HO6.out, HRW.out, HRT.out, HK6.out⟩
          case round =>
            obtain ⟨j, a', c', hj4, rfl, rfl, hox, hrw, hrt, hkx⟩ := hrel
            clear HO6 HRW HRT HK6
            have hlenj : (out ++ (List.range j).map (fun q => at8 WD q ^^^ at8 out (p + q))).length = I + j := by rw [List.length_append, HOL.out]; simp
            by_cases hjl : j < 4
            · obtain ⟨b9, o9, c9, e9, hc9, -, -, h9c⟩ := BAt.at8 hox.bat (by rw [hlenj]; have := HP.out; omega)
              simp only [Value.slice.injEq] at e9
              obtain ⟨rfl, -, rfl⟩ := e9
              have hcj := h9c (p + j) (by rw [hlenj]; have := HP.out; omega)
              have hat8 : at8 (out ++ (List.range j).map (fun q => at8 WD q ^^^ at8 out (p + q))) (p + j) = at8 out (p + j) := by
                unfold at8
                rw [List.getD_eq_getElem?_getD, List.getD_eq_getElem?_getD, List.getElem?_append_left (by rw [HOL.out]; have := HP.out; omega)]
              rw [hat8] at hcj
              have hwj : wr.cell? ⟨TW, j, none⟩ = some (.int .i64 ((at8 WD j).toNat : Int)) := (hrw.cell j).trans (HWC.out j hjl)
              obtain ⟨z, hz⟩ : ∃ z, at8 WD j ^^^ at8 out (p + j) = z := ⟨_, rfl⟩
              have hxx := x64 (at8 WD j) (at8 out (p + j)) z hz
              have hsn : out ++ (List.range (j + 1)).map (fun q => at8 WD q ^^^ at8 out (p + q)) = (out ++ (List.range j).map (fun q => at8 WD q ^^^ at8 out (p + q))) ++ [z] := by
                rw [List.range_succ, List.map_append, ← List.append_assoc, ← hz]
                rfl
              have HSN := Lib.hid hsn
              have hlz : ((out ++ (List.range j).map (fun q => at8 WD q ^^^ at8 out (p + q))) ++ [z]).length = I + (j + 1) := by rw [List.length_append, hlenj]; rfl
              have hbl := BAt.one wr.drew (z.toNat : Int) z 5 rfl
              have hka : Keeps (fun _ => False) wr (wr.drew.alloc (.cells #[.int .u8 (z.toNat : Int)] 5)) := ((Keeps.refl (fun _ => False) wr).drew).alloc _
              obtain ⟨v7, w7, hrun, hb7, hk7, -⟩ := run_append_bytes (ty := 25) (hox.keeps hka (fun _ _ h => h)) hbl (by rw [hlenj]; simp; omega) (by have := hka.size; have := hkx.size; omega)
              obtain ⟨a7, c7, rfl, -, -⟩ := BOwn.slice hb7
              rw [hlz] at hb7 hrun
              have hrw7 := (hrw.keeps hka (fun h => h)).keeps hk7 (fun e => own_apart hox hrw e)
              have hrt7 := (hrt.keeps hka (fun h => h)).keeps hk7 (fun e => own_apart hox hrt e)
              have hk7w := (hkx.trans hka (fun _ _ h => h)).from hk7 (fun b hb => (hox.block b hb).1)
              have HRUN := Lib.hid hrun
              have HB7 := Lib.hid hb7
              have HRW7 := Lib.hid hrw7
              have HRT7 := Lib.hid hrt7
              have HK7 := Lib.hid hk7w
              have ql : (p : Int) + (j : Int) < (I : Int) + (j : Int) := by have := HP.out; omega
              have q0 : (0 : Int) ≤ (p : Int) + (j : Int) := by omega
              have hj4I : (j : Int) < 4 := by omega
              have qb := i64_f ((p : Int) + (j : Int)) (by omega) (by omega)
              have hzf := u8_fit z
              have hwb := u8_i64 (at8 out (p + j))
              generalize (at8 WD j).toNat = xa at *
              generalize (at8 out (p + j)).toNat = xb at *
              generalize z.toNat = zn at *
              obtain ⟨pj, hpj⟩ : ∃ pj, p + j = pj := ⟨_, rfl⟩
              have hpjI : (p : Int) + (j : Int) = (pj : Int) := by omega
              rw [hpjI] at qb ql q0
              rw [hpj] at hcj
              clear hz hsn hlz hbl hka hrun hb7 hrw7 hrt7 hk7w hk7 hrw hrt hkx hox hat8 h9c hlenj hpj
              obtain ⟨qdw, q4w⟩ := HQ.out
              have qbw : IntKind.i64.wrap ((p : Int) + (j : Int)) = (pj : Int) := by rw [hpjI]; exact qb
              go_wp2
              refine region_T [17] (fun x => x.cell? ⟨TW, j, none⟩ = some (.int .i64 (xa : Int)) ∧ x.cell? ⟨b9, o9 + pj, none⟩ = some (.int .u8 (xb : Int))) (by kernel_rfl) ?_
              have hC : (fun x : World => x.cell? ⟨TW, j, none⟩ = some (.int .i64 (xa : Int)) ∧ x.cell? ⟨b9, o9 + pj, none⟩ = some (.int .u8 (xb : Int))) wr.drew := ⟨hwj, hcj⟩
              refine anyT_take0 (i := 0) (v := ?_) rfl (by kernel_rfl) (by kernel_rfl) (by kernel_rfl) (by kernel_rfl) (by kernel_rfl) (fun _ _ _ h => h) hC (.inl ⟨by rfl, fun _ _ => ?_⟩) ?_
              rotate_left 1
              · go_simp
                try with_reducible rfl
              simp only [Act.put, List.getElem_toArray, List.getElem_cons_succ, List.getElem_cons_zero, List.setIfInBounds_toArray, List.set_cons_zero, List.set_cons_succ]
              refine anyT_take0 (i := 1) (v := ?_) rfl (by kernel_rfl) (by kernel_rfl) (by kernel_rfl) (by kernel_rfl) (by kernel_rfl) (fun _ _ _ h => h) hC (.inl ⟨by rfl, fun _ _ => ?_⟩) ?_
              rotate_left 1
              · go_simp
                try with_reducible rfl
              simp only [Act.put, List.getElem_toArray, List.getElem_cons_succ, List.getElem_cons_zero, List.setIfInBounds_toArray, List.set_cons_zero, List.set_cons_succ]
              refine anyT_take0 (i := 2) (v := ?_) rfl (by kernel_rfl) (by kernel_rfl) (by kernel_rfl) (by kernel_rfl) (by kernel_rfl) (fun _ _ _ h => h) hC (.inl ⟨by rfl, fun _ _ => ?_⟩) ?_
              rotate_left 1
              · go_simp
                try with_reducible rfl
              simp only [Act.put, List.getElem_toArray, List.getElem_cons_succ, List.getElem_cons_zero, List.setIfInBounds_toArray, List.set_cons_zero, List.set_cons_succ]
              refine anyT_take0 (i := 3) (v := ?_) rfl (by kernel_rfl) (by kernel_rfl) (by kernel_rfl) (by kernel_rfl) (by kernel_rfl) (fun _ _ _ h => h) hC (.inl ⟨by rfl, fun _ _ => ?_⟩) ?_
              rotate_left 1
              · go_simp
                try with_reducible rfl
              simp only [Act.put, List.getElem_toArray, List.getElem_cons_succ, List.getElem_cons_zero, List.setIfInBounds_toArray, List.set_cons_zero, List.set_cons_succ]
              refine anyT_takeW (i := 4) (v := ?_) rfl (by kernel_rfl) (by kernel_rfl) (by kernel_rfl) (by kernel_rfl) (by kernel_rfl) (by kernel_rfl) (fun _ _ _ h => h) hC (.inl ⟨by rfl, fun w hCw => ?_⟩) ?_
              rotate_left 1
              · dsimp only at hCw
                go_simp
                try with_reducible rfl
              simp only [Act.put, List.getElem_toArray, List.getElem_cons_succ, List.getElem_cons_zero, List.setIfInBounds_toArray, List.set_cons_zero, List.set_cons_succ]
              refine anyT_take0 (i := 5) (v := ?_) rfl (by kernel_rfl) (by kernel_rfl) (by kernel_rfl) (by kernel_rfl) (by kernel_rfl) (fun _ _ _ h => h) hC (.inl ⟨by rfl, fun _ _ => ?_⟩) ?_
              rotate_left 1
              · go_simp
                try with_reducible rfl
              simp only [Act.put, List.getElem_toArray, List.getElem_cons_succ, List.getElem_cons_zero, List.setIfInBounds_toArray, List.set_cons_zero, List.set_cons_succ]
              refine anyT_take0 (i := 6) (v := ?_) rfl (by kernel_rfl) (by kernel_rfl) (by kernel_rfl) (by kernel_rfl) (by kernel_rfl) (fun _ _ _ h => h) hC (.inl ⟨by rfl, fun _ _ => ?_⟩) ?_
              rotate_left 1
              · go_simp
                try with_reducible rfl
              simp only [Act.put, List.getElem_toArray, List.getElem_cons_succ, List.getElem_cons_zero, List.setIfInBounds_toArray, List.set_cons_zero, List.set_cons_succ]
              refine anyT_take0 (i := 7) (v := ?_) rfl (by kernel_rfl) (by kernel_rfl) (by kernel_rfl) (by kernel_rfl) (by kernel_rfl) (fun _ _ _ h => h) hC (.inl ⟨by rfl, fun _ _ => ?_⟩) ?_
              rotate_left 1
              · go_simp
                try with_reducible rfl
              simp only [Act.put, List.getElem_toArray, List.getElem_cons_succ, List.getElem_cons_zero, List.setIfInBounds_toArray, List.set_cons_zero, List.set_cons_succ]
              refine anyT_take0 (i := 8) (v := ?_) rfl (by kernel_rfl) (by kernel_rfl) (by kernel_rfl) (by kernel_rfl) (by kernel_rfl) (fun _ _ _ h => h) hC (.inl ⟨by rfl, fun _ _ => ?_⟩) ?_
              rotate_left 1
              · go_simp
                try with_reducible rfl
              simp only [Act.put, List.getElem_toArray, List.getElem_cons_succ, List.getElem_cons_zero, List.setIfInBounds_toArray, List.set_cons_zero, List.set_cons_succ]
              refine anyT_take0 (i := 9) (v := ?_) rfl (by kernel_rfl) (by kernel_rfl) (by kernel_rfl) (by kernel_rfl) (by kernel_rfl) (fun _ _ _ h => h) hC (.inl ⟨by rfl, fun _ _ => ?_⟩) ?_
              rotate_left 1
              · go_simp
                try with_reducible rfl
              simp only [Act.put, List.getElem_toArray, List.getElem_cons_succ, List.getElem_cons_zero, List.setIfInBounds_toArray, List.set_cons_zero, List.set_cons_succ]
              refine anyT_take0 (i := 10) (v := ?_) rfl (by kernel_rfl) (by kernel_rfl) (by kernel_rfl) (by kernel_rfl) (by kernel_rfl) (fun _ _ _ h => h) hC (.inl ⟨by rfl, fun _ _ => ?_⟩) ?_
              rotate_left 1
              · go_simp
                try with_reducible rfl
              simp only [Act.put, List.getElem_toArray, List.getElem_cons_succ, List.getElem_cons_zero, List.setIfInBounds_toArray, List.set_cons_zero, List.set_cons_succ]
              refine anyT_take0 (i := 11) (v := ?_) rfl (by kernel_rfl) (by kernel_rfl) (by kernel_rfl) (by kernel_rfl) (by kernel_rfl) (fun _ _ _ h => h) hC (.inl ⟨by rfl, fun _ _ => ?_⟩) ?_
              rotate_left 1
              · go_simp
                try with_reducible rfl
              simp only [Act.put, List.getElem_toArray, List.getElem_cons_succ, List.getElem_cons_zero, List.setIfInBounds_toArray, List.set_cons_zero, List.set_cons_succ]
              refine anyT_take0 (i := 12) (v := ?_) rfl (by kernel_rfl) (by kernel_rfl) (by kernel_rfl) (by kernel_rfl) (by kernel_rfl) (fun _ _ _ h => h) hC (.inl ⟨by rfl, fun _ _ => ?_⟩) ?_
              rotate_left 1
              · go_simp
                try with_reducible rfl
              simp only [Act.put, List.getElem_toArray, List.getElem_cons_succ, List.getElem_cons_zero, List.setIfInBounds_toArray, List.set_cons_zero, List.set_cons_succ]
              refine anyT_takeW (i := 13) (v := ?_) rfl (by kernel_rfl) (by kernel_rfl) (by kernel_rfl) (by kernel_rfl) (by kernel_rfl) (by kernel_rfl) (fun _ _ _ h => h) hC (.inl ⟨by rfl, fun w hCw => ?_⟩) ?_
              rotate_left 1
              · dsimp only at hCw
                go_simp
                try with_reducible rfl
              simp only [Act.put, List.getElem_toArray, List.getElem_cons_succ, List.getElem_cons_zero, List.setIfInBounds_toArray, List.set_cons_zero, List.set_cons_succ]
              refine anyT_take0 (i := 14) (v := ?_) rfl (by kernel_rfl) (by kernel_rfl) (by kernel_rfl) (by kernel_rfl) (by kernel_rfl) (fun _ _ _ h => h) hC (.inl ⟨by rfl, fun _ _ => ?_⟩) ?_
              rotate_left 1
              · go_simp
                try with_reducible rfl
              simp only [Act.put, List.getElem_toArray, List.getElem_cons_succ, List.getElem_cons_zero, List.setIfInBounds_toArray, List.set_cons_zero, List.set_cons_succ]
              refine anyT_take0 (i := 15) (v := ?_) rfl (by kernel_rfl) (by kernel_rfl) (by kernel_rfl) (by kernel_rfl) (by kernel_rfl) (fun _ _ _ h => h) hC (.inl ⟨by rfl, fun _ _ => ?_⟩) ?_
              rotate_left 1
              · go_simp
                try with_reducible rfl
              simp only [Act.put, List.getElem_toArray, List.getElem_cons_succ, List.getElem_cons_zero, List.setIfInBounds_toArray, List.set_cons_zero, List.set_cons_succ]
              refine anyT_take0 (i := 16) (v := ?_) rfl (by kernel_rfl) (by kernel_rfl) (by kernel_rfl) (by kernel_rfl) (by kernel_rfl) (fun _ _ _ h => h) hC (.inl ⟨by rfl, fun _ _ => ?_⟩) ?_
              rotate_left 1
              · go_simp
                try with_reducible rfl
              simp only [Act.put, List.getElem_toArray, List.getElem_cons_succ, List.getElem_cons_zero, List.setIfInBounds_toArray, List.set_cons_zero, List.set_cons_succ]
              refine anyT_tail (k := 17) (by rfl) (by kernel_rfl) (by simp) rfl rfl (by kernel_rfl) ?_
              go_wp2_with (at_builtin; refine Lib.wpList_append_run _ rfl _ _ _ _ rfl _ _ rfl rfl _ _ HRUN.out ?_)
              go_roundw
              case rel => exact ⟨j + 1, _, _, hjl, by go_num, rfl, by rw [HSN.out]; exact HB7.out, HRW7.out, HRT7.out, HK7.out⟩
              case measure => clear qdw q4w qbw qb hzf hwb; simp [intOf]; omega
            · obtain rfl : j = 4 := by omega
              have HOX := Lib.hid hox
              have HRX := Lib.hid hrt
              have HKX := Lib.hid hkx
              have hfin : keysF 16 f (out ++ (List.range 4).map (fun q => at8 WD q ^^^ at8 out (p + q))) t = keysOf key := by
                rw [← HF.out]
                show _ = keysF 16 f (keyStep 16 out t) (turnStep 16 out t)
                rw [HTT.out]
                unfold keyStep
                rw [HWD.out, HOL.out, show I - 16 = p by have := HP.out; omega]
              have HFIN := Lib.hid hfin
              have hl9 : (out ++ (List.range 4).map (fun q => at8 WD q ^^^ at8 out (p + q))).length = 4 * (i + 1) := by rw [hlenj, ← HI.out]; omega
              have HL9 := Lib.hid hl9
              have hI4 : I + 4 = 4 * (i + 1) := by rw [← HI.out]; omega
              rw [hI4] at HOX ⊢
              clear hox hrt hrw hkx hfin hlenj hl9 hI4
              go_wp2
              go_roundw
              case rel => exact ⟨f, i + 1, _, t, _, _, rfl, rfl, by go_num, HL9.out, by omega, by omega, HOX.out, HRX.out, HFIN.out, HKX.out⟩
              case measure => simp [intOf]; omega
end Go.Proofs.YtekaoknpjpbjgaaDoor
