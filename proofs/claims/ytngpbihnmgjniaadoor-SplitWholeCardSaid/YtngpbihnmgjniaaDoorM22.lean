/- Words, walks and plain laws that the claim leans on, part 22. -/
import Derived.Test.YtngpbihnmgjniaaDoorM19
import Derived.Test.YtngpbihnmgjniaaDoorM21

/-! few and awake of layer 19. -/
namespace Go.Proofs.YtngpbihnmgjniaaDoor
set_option linter.unusedVariables false
set_option linter.unusedSimpArgs false
open Go.RowKit Go.Proofs.YtngpbihnmgjniaaDoor.PQ

def PN (n : Nat) : P4 := ⟨0, 0, 0, 0, false, false, 0, [97, 98, 99, 100], [101, 102, 103, 104], [], List.replicate n 0⟩
theorem pn_check (n : Nat) (h : n ≤ 65515) : checkE (PN n) = 0 := by
  have h1 : numsOk (PN n) = true := by rfl
  have h2 : (PN n).data.length = n := List.length_replicate
  have c1 : ¬ (true = false ∨ (PN n).off.tmod 8 ≠ 0) := fun h => h.elim (fun h => by cases h) (fun h => h rfl)
  have c2 : ¬ ((PN n).src.length ≠ 4 ∨ (PN n).dst.length ≠ 4) := fun h => h.elim (fun h => h rfl) (fun h => h rfl)
  have c3 : ¬ ((PN n).opt.length % 4 ≠ 0 ∨ 40 < (PN n).opt.length) := fun h => h.elim (fun h => h rfl) (fun h => absurd h (show ¬ 40 < 0 by omega))
  have c4 : ¬ 65535 < 20 + (PN n).opt.length + n := show ¬ 65535 < 20 + 0 + n by omega
  unfold checkE
  rw [h1, h2, if_neg c1, if_neg c2, if_neg c3, if_neg c4]
theorem pn_split : splitR (PN 1480) 820 = (0, [⟨0, 0, 0, 0, false, true, 0, [97, 98, 99, 100], [101, 102, 103, 104], [], List.replicate 800 0⟩, ⟨0, 0, 0, 0, false, false, 800, [97, 98, 99, 100], [101, 102, 103, 104], [], List.replicate 680 0⟩]) := by
  unfold splitR
  have hl : laterO (PN 1480).opt = [] := by rfl
  have hf : (optF (PN 1480).opt).2 = 0 := by rfl
  have hlen : (PN 1480).data.length = 1480 := List.length_replicate
  rw [if_neg (by rw [pn_check 1480 (by omega)]; simp), if_neg (by omega), hlen, if_neg (by show ¬ ((20 + 0 + 1480 : Nat) : Int) ≤ 820; omega), if_neg (fun h => by cases h), hf, if_neg (by simp), hl]
  show outOf (piecesF 1481 (PN 1480) 820 []) = _
  unfold piecesF
  rw [if_neg (by show ¬ (65528 : Int) < 0; omega), hlen, if_neg (by show ¬ 1480 ≤ 820 - 20 - 0; omega)]
  have e1 : (PN 1480).data.drop ((820 - 20 - (PN 1480).opt.length) / 8 * 8) = List.replicate 680 0 := List.drop_replicate
  have e2 : (PN 1480).data.take ((820 - 20 - (PN 1480).opt.length) / 8 * 8) = List.replicate 800 0 := List.take_replicate
  have e3 : (PN 1480).off + (((820 - 20 - (PN 1480).opt.length) / 8 * 8 : Nat) : Int) = 800 := rfl
  rw [e1, e2, e3]
  unfold piecesF
  rw [if_neg (by show ¬ (65528 : Int) < 800; omega), if_pos (by show (List.replicate 680 (0 : UInt8)).length ≤ _; rw [List.length_replicate]; show 680 ≤ 820 - 20 - 0; omega)]
  rfl
theorem later_ex : laterO [7, 3, 4, 148, 4, 0, 0, 0] = [148, 4, 0, 0] ∧ (optF [7, 3, 4, 148, 4, 0, 0, 0]).2 = 0 := by decide

def fewS (p : P4) : Bool := decide (p.src.length + p.dst.length + p.opt.length ≤ 300) && decide (p.data.length ≤ 3000)
theorem fewS_facts (p : P4) (h : fewS p = true) : p.src.length + p.dst.length + p.opt.length ≤ 300 ∧ p.data.length ≤ 3000 := by
  unfold fewS at h
  simp only [Bool.and_eq_true, decide_eq_true_eq] at h
  exact h

set_option maxRecDepth 100000 in
set_option maxHeartbeats 4000000 in
theorem few_any (p : P4) (dv : Value) (w : World) (hd : BRd w dv p.data) (hs : Sized4 p) :
    Calls Tryd.prog 6 #[.agg (p4cells p dv)] w fun e w' => e = .returned (.bool (fewS p)) ∧ Keeps (fun _ => False) w w' := by
  obtain ⟨tos, id, ttl, proto, df, mf, off, src, dst, opt, data⟩ := p
  obtain ⟨s1, s2, s3⟩ := hs
  simp only at hd s1 s2 s3
  obtain ⟨da, dc, rfl, hdc, hdm⟩ := hd.slice
  simp only [maxLen] at hdm
  unfold p4cells txt
  simp only
  have hk0 := (Keeps.refl (fun _ => False) w).alloc (.cells #[.int .i64 tos, .int .i64 id, .int .i64 ttl, .int .i64 proto, .bool df, .bool mf, .int .i64 off, .string ⟨src.toArray⟩, .string ⟨dst.toArray⟩, .string ⟨opt.toArray⟩, .slice da data.length dc] 24)
  have t1 : (src.length : Int) ≤ 140737488351232 := by omega
  have t2 : (dst.length : Int) ≤ 140737488351232 := by omega
  have t3 : (opt.length : Int) ≤ 140737488351232 := by omega
  by_cases h1 : (src.length : Int) + (dst.length : Int) + (opt.length : Int) ≤ 300
  · by_cases h2 : (data.length : Int) ≤ 3000
    · go_enter Tryd.func6, Tryd.ntmps6
      go_wp2
      go_ret
      refine ⟨ret_bool ?_, hk0⟩
      unfold fewS
      simp only
      first | (simp; omega) | (simp [*]; done) | (simp; done)
    · have h2' : (3000 : Int) < (data.length : Int) := by omega
      go_enter Tryd.func6, Tryd.ntmps6
      go_wp2
      go_ret
      refine ⟨ret_bool ?_, hk0⟩
      unfold fewS
      simp only
      first | (simp; omega) | (simp [*]; done) | (simp; done)
  · have h1' : (300 : Int) < (src.length : Int) + (dst.length : Int) + (opt.length : Int) := by omega
    go_enter Tryd.func6, Tryd.ntmps6
    go_wp2
    go_ret
    refine ⟨ret_bool ?_, hk0⟩
    unfold fewS
    simp only
    first | (simp; omega) | (simp [*]; done) | (simp; done)

/-- Cells of a row of packets, as the walks ask for them. -/
theorem PRd.cells {w : World} {b off n c : Nat} {L : List P4} (h : PRd w (.slice (some ⟨b, off, none⟩) n c) L) (i : Nat) (hi : i < L.length) :
    ∃ dv, BRd w dv L[i].data ∧ w.cell? ⟨b, off + i * 11, none⟩ = some (.int .i64 L[i].tos) ∧ w.cell? ⟨b, off + i * 11 + 1, none⟩ = some (.int .i64 L[i].id) ∧ w.cell? ⟨b, off + i * 11 + 2, none⟩ = some (.int .i64 L[i].ttl) ∧ w.cell? ⟨b, off + i * 11 + 3, none⟩ = some (.int .i64 L[i].proto) ∧
      w.cell? ⟨b, off + i * 11 + 4, none⟩ = some (.bool L[i].df) ∧ w.cell? ⟨b, off + i * 11 + 5, none⟩ = some (.bool L[i].mf) ∧ w.cell? ⟨b, off + i * 11 + 6, none⟩ = some (.int .i64 L[i].off) ∧ w.cell? ⟨b, off + i * 11 + 7, none⟩ = some (.string ⟨L[i].src.toArray⟩) ∧
      w.cell? ⟨b, off + i * 11 + 8, none⟩ = some (.string ⟨L[i].dst.toArray⟩) ∧ w.cell? ⟨b, off + i * 11 + 9, none⟩ = some (.string ⟨L[i].opt.toArray⟩) ∧ w.cell? ⟨b, off + i * 11 + 10, none⟩ = some dv := by
  obtain ⟨b', off', dv, e, hd, hc⟩ := h.at i hi
  simp only [Option.some.injEq, Addr.mk.injEq, and_true] at e
  obtain ⟨rfl, rfl⟩ := e
  exact ⟨dv, hd, hc 0 (by omega), hc 1 (by omega), hc 2 (by omega), hc 3 (by omega), hc 4 (by omega), hc 5 (by omega), hc 6 (by omega), hc 7 (by omega), hc 8 (by omega), hc 9 (by omega), hc 10 (by omega)⟩

set_option maxRecDepth 100000 in
set_option maxHeartbeats 4000000 in
theorem awake_any (w : World) (hg : ErrT w) : Calls Tryd.prog 8 #[] w fun e w' => e = .returned (.bool true) ∧ Keeps (fun _ => False) w w' := by
  obtain ⟨y1, y2⟩ := later_ex
  have hlat := fun W => later_any [7, 3, 4, 148, 4, 0, 0, 0] W (by decide)
  rw [y1, y2] at hlat
  have hspl := fun dv W hg hd => split_any (PN 1480) dv 820 W hg hd (by decide) (by show (List.replicate 1480 (0 : UInt8)).length ≤ _; rw [List.length_replicate]; omega) (by omega) (by omega)
  unfold Splits at hspl
  rw [pn_split] at hspl
  have HS := Lib.hid hspl
  have HL := Lib.hid hlat
  clear hspl hlat y1 y2
  go_enter Tryd.func8, Tryd.ntmps8
  go_wp2_with (refine wpList_make_bytes rfl _ _ rfl w.heap.size 1480 1480 1480 1480 rfl rfl rfl rfl (by omega) (by omega) (Nat.le_refl _) (fun w1 ho1 hk1 => ?_))
  refine (HS.out _ w1 (hg.keeps hk1) ho1.bat.low).mono ?_
  rintro e w2 ⟨v2, rfl, hp2, hk2⟩
  have hkA := hk1.trans hk2 (fun _ _ h => h)
  obtain ⟨Z1, hZ1⟩ : ∃ Z, List.replicate 800 (0 : UInt8) = Z := ⟨_, rfl⟩
  obtain ⟨Z2, hZ2⟩ : ∃ Z, List.replicate 680 (0 : UInt8) = Z := ⟨_, rfl⟩
  have l1 : Z1.length = 800 := by rw [← hZ1, List.length_replicate]
  have l2 : Z2.length = 680 := by rw [← hZ2, List.length_replicate]
  rw [hZ1, hZ2] at hp2
  clear hZ1 hZ2 HS ho1 hk1 hk2
  go_wp2_with fail
  refine (HL.out _).mono ?_
  rintro e w3 ⟨rfl, hk3⟩
  have hp3 := hp2.keeps hk3
  obtain ⟨va, vc, rfl, -, -⟩ := hp3.slice
  obtain ⟨b, off, -, rfl, -, -⟩ := hp3.at 0 (by simp)
  obtain ⟨dv1, hd1, -, -, -, -, -, m1, -, -, -, -, m2⟩ := hp3.cells 0 (by simp)
  obtain ⟨dv2, hd2, -, -, -, -, -, n1, n2, -, -, -, n3⟩ := hp3.cells 1 (by simp)
  have hkB := hkA.trans hk3 (fun _ _ h => h)
  obtain ⟨a1, z1, rfl, -, -⟩ := hd1.slice
  obtain ⟨a2, z2, rfl, -, -⟩ := hd2.slice
  simp only [List.getElem_cons_zero, List.getElem_cons_succ, l1, l2, Nat.zero_mul, Nat.one_mul, Nat.add_zero, Nat.add_assoc, Nat.reduceAdd] at m1 m2 n1 n2 n3
  clear hd1 hd2 hp3 hp2 HL hkA hk3
  go_wp2
  go_ret
  exact ⟨rfl, hkB⟩
end Go.Proofs.YtngpbihnmgjniaaDoor

/-! The law SplitMany. -/
namespace Go.Proofs.YtngpbihnmgjniaaDoor
set_option linter.unusedVariables false
set_option linter.unusedSimpArgs false
open Go.RowKit

theorem wantF_le : ∀ (f n room : Nat), 1 ≤ wantF f n room ∧ wantF f n room ≤ f + 1 := by
  intro f
  induction f with
  | zero => intro n room; exact ⟨Nat.le_refl _, Nat.le_refl _⟩
  | succ f ih =>
    intro n room
    unfold wantF
    split
    · omega
    · have := ih (n - room / 8 * 8) room
      omega
theorem pn_many (n m : Nat) (hn : n ≤ 5000) (hm : 68 ≤ m) :
    ∃ L, splitR (PN n) (m : Int) = (0, L) ∧ L.length = wantF (n + 1) n (m - 20) ∧ ∀ i, (h : i + 1 < L.length) → L[i].data.length = (m - 20) / 8 * 8 := by
  have hl : laterO (PN n).opt = [] := by rfl
  have hf : (optF (PN n).opt).2 = 0 := by rfl
  have hlen : (PN n).data.length = n := List.length_replicate
  have ho : (PN n).opt.length = 0 := rfl
  unfold splitR
  rw [if_neg (by rw [pn_check n (by omega)]; simp), if_neg (by omega), hlen, ho]
  by_cases hfit : ((20 + 0 + n : Nat) : Int) ≤ (m : Int)
  · rw [if_pos hfit]
    refine ⟨[PN n], rfl, ?_, fun i h => by simp at h⟩
    unfold wantF
    rw [if_pos (by omega)]
    rfl
  · rw [if_neg hfit, if_neg (fun h => by cases h), hf, if_neg (by simp), hl, Int.toNat_natCast]
    obtain ⟨L, hL⟩ := piecesF_there m hm [] (by simp) (n + 1) (PN n) (by omega) (by rw [ho]; omega) (by rw [hlen]; show (0 : Int) + _ ≤ _; omega)
    obtain ⟨h1, h2⟩ := piecesF_many m (n + 1) (PN n) L rfl hL
    rw [hlen] at h1
    exact ⟨L, by rw [hL]; rfl, h1, h2⟩

set_option maxRecDepth 100000 in
set_option maxHeartbeats 4000000 in
theorem lmany_any (n m : Int) (w : World) (hg : ErrT w) :
    Calls Tryd.prog 4 #[.int .i64 n, .int .i64 m] w fun e w' => e = .returned (.bool true) ∧ Keeps (fun _ => False) w w' := by
  by_cases hn0 : n < 0
  · go_enter Tryd.func4, Tryd.ntmps4
    go_wp2
    go_ret
    exact ⟨rfl, Keeps.refl _ _⟩
  · have hn0' : 0 ≤ n := by omega
    by_cases hn1 : 5000 < n
    · go_enter Tryd.func4, Tryd.ntmps4
      go_wp2
      go_ret
      exact ⟨rfl, Keeps.refl _ _⟩
    · have hn1' : n ≤ 5000 := by omega
      by_cases hm0 : m < 68
      · go_enter Tryd.func4, Tryd.ntmps4
        go_wp2
        go_ret
        exact ⟨rfl, Keeps.refl _ _⟩
      · have hm0' : 68 ≤ m := by omega
        by_cases hm1 : 6000 < m
        · go_enter Tryd.func4, Tryd.ntmps4
          go_wp2
          go_ret
          exact ⟨rfl, Keeps.refl _ _⟩
        · have hm1' : m ≤ 6000 := by omega
          obtain ⟨k, rfl⟩ : ∃ k : Nat, n = k := ⟨n.toNat, by omega⟩
          obtain ⟨j, rfl⟩ : ∃ k : Nat, m = k := ⟨m.toNat, by omega⟩
          have hspl := fun dv W hg hd => split_any (PN k) dv j W hg hd (by show 0 ≤ 1000; omega) (by show (List.replicate k (0 : UInt8)).length ≤ _; rw [List.length_replicate]; omega) (by omega) (by omega)
          obtain ⟨L, hL, hL1, hL2⟩ := pn_many k j (by omega) (by omega)
          unfold Splits at hspl
          rw [hL] at hspl
          have HS := Lib.hid hspl
          obtain ⟨room, hroom⟩ : ∃ room, j - 20 = room := ⟨_, rfl⟩
          rw [hroom] at hL1 hL2
          obtain ⟨D, hD⟩ : ∃ D, room / 8 = D := ⟨_, rfl⟩
          obtain ⟨full, hfull⟩ : ∃ D, room / 8 * 8 = D := ⟨_, rfl⟩
          rw [hfull] at hL2
          have q1 : IntKind.i64.wrap ((j : Int) - 20) = (room : Int) := by rw [i64_fit _ (by omega) (by omega)]; omega
          have q3 : (room : Int).tdiv 8 = (D : Int) := by rw [Int.tdiv_eq_ediv_of_nonneg (by omega)]; omega
          have q4 : IntKind.i64.wrap (D : Int) = (D : Int) := i64_fit _ (by omega) (by omega)
          have q5 : IntKind.i64.wrap ((D : Int) * 8) = (full : Int) := by rw [i64_fit _ (by omega) (by omega)]; omega
          have hf8 : 8 ≤ full := by omega
          have hwl := wantF_le (k + 1) k room
          have HL1 := Lib.hid hL1
          have HL2 := Lib.hid hL2
          have HR := Lib.hid hfull
          have HW := Lib.hid hwl
          clear hspl hL hL1 hL2 hroom hD hfull hwl hn0 hn1 hm0 hm1
          go_enter Tryd.func4, Tryd.ntmps4
          go_wp2_with (refine wpList_make_bytes rfl _ _ rfl w.heap.size k k k k rfl rfl rfl rfl (Nat.le_refl _) (by omega) (Nat.le_refl _) (fun w1 ho1 hk1 => ?_))
          refine (HS.out _ w1 (hg.keeps hk1) ho1.bat.low).mono ?_
          rintro e w2 ⟨v2, rfl, hp2, hk2⟩
          have hkA := hk1.trans hk2 (fun _ _ h => h)
          obtain ⟨va, vc, rfl, -, -⟩ := hp2.slice
          clear HS ho1 hk1 hk2
          go_wp2
          go_loopw [9, 10] (fun u9 u10 wr => ∃ f left c : Nat, left < f ∧ left ≤ 5000 ∧ u9 = .int .i64 c ∧ u10 = .int .i64 left ∧ c + wantF f left room = L.length + 1 ∧ Keeps (fun _ => False) w2 wr) (fun _ u10 _ => (intOf u10).toNat)
          case atStart => exact ⟨k + 1, k, 1, by omega, by omega, rfl, rfl, by have := HL1.out; omega, Keeps.refl _ _⟩
          case round =>
            obtain ⟨f, left, c, h1, h2, rfl, rfl, h3, hkw⟩ := hrel
            obtain ⟨f, rfl⟩ : ∃ g, f = g + 1 := ⟨f - 1, by omega⟩
            have hw : wantF (f + 1) left room = if left ≤ room then 1 else 1 + wantF f (left - full) room := by
              conv => lhs; unfold wantF
              rw [HR.out]
            rw [hw] at h3
            have hLb : L.length ≤ 10000 := by have := HW.out; have := HL1.out; omega
            clear hw
            have q6 : IntKind.i64.wrap ((c : Int) + 1) = ((c + 1 : Nat) : Int) := by
              have : c ≤ L.length + 1 := by omega
              rw [i64_fit _ (by omega) (by omega)]; omega
            by_cases hgt : room < left
            · rw [if_neg (by omega)] at h3
              have hgt' : (room : Int) < (left : Int) := by omega
              have hfl : full ≤ left := by have := HR.out; omega
              have q7 : IntKind.i64.wrap ((left : Int) - (full : Int)) = ((left - full : Nat) : Int) := by rw [i64_fit _ (by omega) (by omega)]; omega
              obtain ⟨l2, hl2⟩ : ∃ l2, left - full = l2 := ⟨_, rfl⟩
              obtain ⟨c2, hc2⟩ : ∃ c2, c + 1 = c2 := ⟨_, rfl⟩
              rw [hl2] at q7 h3
              rw [hc2] at q6
              go_wp2
              go_roundw
              case rel => exact ⟨f, l2, c2, by omega, by omega, rfl, rfl, by omega, hkw⟩
              case measure => simp [intOf]; omega
            · rw [if_pos (by omega)] at h3
              have hgt' : (left : Int) ≤ (room : Int) := by omega
              obtain rfl : c = L.length := by omega
              clear h3
              go_wp2
              have hkB := hkA.trans hkw (fun _ _ h => h)
              have hp3 := hp2.keeps hkw
              go_loopw [11] (fun u11 wx => ∃ i : Nat, i ≤ L.length ∧ u11 = .int .i64 i ∧ Keeps (fun _ => False) wr wx) (fun u11 _ => L.length - (intOf u11).toNat)
              case atStart => exact ⟨0, by omega, rfl, Keeps.refl _ _⟩
              case round =>
                obtain ⟨i, hi, rfl, hkx⟩ := hrel
                have q7 : IntKind.i64.wrap ((i : Int) + 1) = ((i + 1 : Nat) : Int) := by rw [i64_fit _ (by omega) (by omega)]; omega
                obtain ⟨i2, hi2⟩ : ∃ i2, i + 1 = i2 := ⟨_, rfl⟩
                rw [hi2] at q7
                by_cases hlt : i2 < L.length
                · have hlt' : (i2 : Int) < (L.length : Int) := by omega
                  have hli : (i : Int) < (L.length : Int) := by omega
                  have hp4 := hp3.keeps hkx
                  obtain ⟨b, off, -, rfl, -, -⟩ := hp4.at i (by omega)
                  obtain ⟨dv, hd, -, -, -, -, -, -, -, -, -, -, hcell⟩ := hp4.cells i (by omega)
                  obtain ⟨a1, z1, rfl, -, -⟩ := hd.slice
                  rw [HL2.out i (by omega)] at hcell
                  clear hd hp4
                  go_wp2
                  go_roundw
                  case rel => exact ⟨i2, by omega, rfl, hkx⟩
                  case measure => simp [intOf]; omega
                · have hlt' : (L.length : Int) ≤ (i2 : Int) := by omega
                  have hkC := hkB.trans hkx (fun _ _ h => h)
                  go_wp2_with (refine (awake_any _ (hg.keeps hkC)).mono ?_; rintro e w8 ⟨rfl, hk8⟩)
                  go_ret
                  exact ⟨rfl, hkC.trans hk8 (fun _ _ h => h)⟩

theorem lmany_row (n m : Int) (w : World) (_ : (Lit.int .i64 n).wf = true) (_ : (Lit.int .i64 m).wf = true) (hg : ErrT w) :
    Calls Tryd.prog 4 #[.int .i64 n, .int .i64 m] w fun e w' => e = .returned (.bool true) ∧ Keeps (fun _ => False) w w' := lmany_any n m w hg
end Go.Proofs.YtngpbihnmgjniaaDoor
