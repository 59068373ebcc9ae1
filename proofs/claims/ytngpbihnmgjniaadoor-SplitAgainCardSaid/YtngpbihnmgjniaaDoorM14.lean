/- Words, walks and plain laws that the claim leans on, part 14. -/
import Derived.Test.YtngpbihnmgjniaaDoorM6
import Derived.Test.YtngpbihnmgjniaaDoorM7
import Derived.Test.YtngpbihnmgjniaaDoorM10
import Derived.Test.YtngpbihnmgjniaaDoorM11
import Derived.Test.YtngpbihnmgjniaaDoorM13

/-! ip4.Parse. -/
namespace Go.Proofs.YtngpbihnmgjniaaDoor
set_option linter.unusedVariables false
set_option linter.unusedSimpArgs false
open Go.RowKit

/-- A packet: its numbers, its texts, its bytes. -/
structure P4 where
  tos : Int
  id : Int
  ttl : Int
  proto : Int
  df : Bool
  mf : Bool
  off : Int
  src : List UInt8
  dst : List UInt8
  opt : List UInt8
  data : List UInt8
def txt (l : List UInt8) : Value := .string ⟨l.toArray⟩
def p4cells (p : P4) (dv : Value) : Array Value := #[.int .i64 p.tos, .int .i64 p.id, .int .i64 p.ttl, .int .i64 p.proto, .bool p.df, .bool p.mf, .int .i64 p.off, txt p.src, txt p.dst, txt p.opt, dv]
def p4zero : P4 := ⟨0, 0, 0, 0, false, false, 0, [], [], [], []⟩
def parseP (l : List UInt8) : P4 :=
  ⟨byF l 1, twoF l 4, byF l 8, byF l 9, decide (twoF l 6 / 16384 % 2 = 1), decide (twoF l 6 / 8192 % 2 = 1), twoF l 6 % 8192 * 8, (l.drop 12).take 4, (l.drop 16).take 4, (l.drop 20).take (headF l - 20), l.drop (headF l)⟩
/-- What is read of bytes. -/
def P4out (l : List UInt8) : P4 := if parseE l = 0 then parseP l else p4zero
def Parsed (l : List UInt8) (w : World) (e : Ending) (w' : World) : Prop :=
  ∃ dv, e = .returned (.tuple #[.agg (p4cells (P4out l) dv), .int .i64 (parseE l)]) ∧ BRd w' dv (P4out l).data ∧ Keeps (fun _ => False) w w'

theorem and_pow (x i : Nat) : x &&& 2 ^ i = 2 ^ i * (x / 2 ^ i % 2) := by
  rw [← Nat.toNat_testBit]
  apply Nat.eq_of_testBit_eq
  intro j
  rw [Nat.testBit_and, Nat.testBit_two_pow]
  by_cases h : i = j
  · subst h
    cases hb : x.testBit i <;> simp [Nat.testBit_two_pow]
  · cases hb : x.testBit i <;> simp [h, Nat.testBit_two_pow]

theorem parse_facts (l : List UInt8) (h : parseE l = 0) : 20 ≤ l.length ∧ 20 ≤ headF l ∧ headF l ≤ l.length ∧ headF l ≤ 60 ∧ byF l 0 / 16 = 4 ∧ twoF l 2 = l.length ∧ byF l 6 < 128 ∧ sum16 (l.take (headF l)) = 65535 := by
  unfold parseE at h
  have hh : headF l ≤ 60 := by unfold headF; omega
  split at h
  · cases h
  · split at h
    · cases h
    · split at h
      · cases h
      · split at h
        · cases h
        · split at h
          · cases h
          · omega
theorem cutS {w : World} {b off n c : Nat} {l : List UInt8} (h : BRd w (.slice (some ⟨b, off, none⟩) n c) l) (k m : Nat) (hk : k ≤ l.length) (hm : k + m ≤ l.length) :
    ∃ o2, (if c = k then some (⟨b, off, none⟩ : Addr) else some ⟨b, off + k, none⟩) = some ⟨b, o2, none⟩ ∧ ∀ w', Keeps (fun _ => False) w w' → BRd w' (.slice (some ⟨b, o2, none⟩) m (c - k)) ((l.drop k).take m) := by
  obtain ⟨o2, e, h2, -⟩ := BAt.cut h k hk
  have hn := h.slice
  obtain ⟨a, c', e', -, -⟩ := hn
  simp only [Value.slice.injEq] at e'
  obtain ⟨-, rfl, -⟩ := e'
  exact ⟨o2, e, fun w' hk' => BRd.take (BRd.keeps h2 hk') m (by rw [List.length_drop]; omega) (by rw [List.length_drop])⟩

theorem p4_one (p : P4) (dv : Value) (hd : dv.oneCell' = true) : (p4cells p dv).all (·.oneCell') = true := by
  unfold p4cells
  exact all_oneCell_toArray (by intro v hv; simp only [List.mem_cons, List.not_mem_nil, or_false] at hv; rcases hv with rfl | rfl | rfl | rfl | rfl | rfl | rfl | rfl | rfl | rfl | rfl <;> first | rfl | exact hd)

end Go.Proofs.YtngpbihnmgjniaaDoor

/-! ip4.check: what is wrong with a packet. -/
namespace Go.Proofs.YtngpbihnmgjniaaDoor
set_option linter.unusedVariables false
set_option linter.unusedSimpArgs false
open Go.RowKit

def numsOk (p : P4) : Bool := inAll [p.tos, 255, p.ttl, 255, p.proto, 255, p.id, 65535, p.off, 65528]
def checkE (p : P4) : Int :=
  if numsOk p = false ∨ p.off.tmod 8 ≠ 0 then 1 else if p.src.length ≠ 4 ∨ p.dst.length ≠ 4 then 1 else if p.opt.length % 4 ≠ 0 ∨ 40 < p.opt.length then 1
  else if 65535 < 20 + p.opt.length + p.data.length then 2 else 0

/-- A call's end: nil, or a fault with the number k. -/
def ErrIs (k : Int) (w : World) (e : Ending) (w' : World) : Prop :=
  ((k = 0 ∧ e = .returned .nilIface) ∨ (k ≠ 0 ∧ ∃ fb, e = .returned (.iface 56 (.pointer (some ⟨fb, 0, none⟩))) ∧ w'.cell? ⟨fb, 1, none⟩ = some (.iface 27 (.int .i64 k)))) ∧ Keeps (fun _ => False) w w'


set_option maxRecDepth 100000 in
set_option maxHeartbeats 4000000 in
theorem check4_any (g : Nat) (p : P4) (dv : Value) (w : World) (hr : RowAt w g (p4cells p dv) 24) (hd : BRd w dv p.data) (ho : p.opt.length ≤ 100000) (hdl : p.data.length ≤ 100000) :
    Calls Tryd.prog 15 #[.pointer (some ⟨g, 0, none⟩)] w (ErrIs (checkE p) w) := by
  obtain ⟨tos, id, ttl, proto, df, mf, off, src, dst, opt, data⟩ := p
  simp only at hd ho hdl
  obtain ⟨da, dc, rfl, -, -⟩ := hd.slice
  have hEq : checkE ⟨tos, id, ttl, proto, df, mf, off, src, dst, opt, data⟩ = (if numsOk ⟨tos, id, ttl, proto, df, mf, off, src, dst, opt, data⟩ = false ∨ off.tmod 8 ≠ 0 then 1 else if src.length ≠ 4 ∨ dst.length ≠ 4 then 1 else if opt.length % 4 ≠ 0 ∨ 40 < opt.length then 1
    else if 65535 < 20 + opt.length + data.length then 2 else 0) := rfl
  have hno : numsOk ⟨tos, id, ttl, proto, df, mf, off, src, dst, opt, data⟩ = inAll [tos, 255, ttl, 255, proto, 255, id, 65535, off, 65528] := rfl
  rw [hno] at hEq
  obtain ⟨E, hE⟩ : ∃ E, checkE ⟨tos, id, ttl, proto, df, mf, off, src, dst, opt, data⟩ = E := ⟨_, rfl⟩
  rw [hE] at hEq ⊢
  clear hE hno
  have d0 : w.cell? ⟨g, 0, none⟩ = some (.int .i64 tos) := hr.cell 0
  have d1 : w.cell? ⟨g, 1, none⟩ = some (.int .i64 id) := hr.cell 1
  have d2 : w.cell? ⟨g, 2, none⟩ = some (.int .i64 ttl) := hr.cell 2
  have d3 : w.cell? ⟨g, 3, none⟩ = some (.int .i64 proto) := hr.cell 3
  have d6 : w.cell? ⟨g, 6, none⟩ = some (.int .i64 off) := hr.cell 6
  have hwi := fun (W : World) => within_any (.slice (some ⟨W.heap.size, 0, none⟩) 10 10) [tos, 255, ttl, 255, proto, 255, id, 65535, off, 65528] 5 (W.alloc (.cells #[.int .i64 tos, .int .i64 255, .int .i64 ttl, .int .i64 255, .int .i64 proto, .int .i64 255, .int .i64 id, .int .i64 65535, .int .i64 off, .int .i64 65528] 3)) (ZAt.low (ZAt.lit W _ _ 10 3 rfl rfl (by omega))) rfl (by omega)
  obtain ⟨ok, hok⟩ : ∃ b, inAll [tos, 255, ttl, 255, proto, 255, id, 65535, off, 65528] = b := ⟨_, rfl⟩
  have hoff : ok = true → 0 ≤ off ∧ off ≤ 65528 := by
    intro h
    rw [h] at hok
    simp [inAll] at hok
    omega
  rw [hok] at hEq hwi
  have HE := Lib.hid hEq
  have HO := Lib.hid hoff
  have hol : (opt.length : Int) ≤ 100000 := by omega
  have hdl' : (data.length : Int) ≤ 100000 := by omega
  clear hEq hok hoff
  go_enter Tryd.func15, Tryd.ntmps15
  go_wp2
  refine region_draws_tail 20 (by kernel_rfl) (by kernel_rfl) ?_
  simp only [List.take_succ_cons, List.take_zero, List.drop_succ_cons, List.drop_zero]
  repeat (go_big_quiet_step (fail))
  refine wpQuiet_nil ?_
  rintro _ ⟨nq, rfl⟩
  generalize hw2 : World.drewN w _ = w2
  have hk2 : Keeps (fun _ => False) w w2 := hw2 ▸ (Keeps.refl _ w).drewN _
  clear hw2
  go_wp2_with fail
  refine (hwi w2).mono ?_
  rintro e w3 ⟨rfl, hk3⟩
  have hkq : Keeps (fun _ => False) w w3 := (hk2.alloc _).trans hk3 (fun _ _ h => h)
  have hr3 := hr.keeps hkq (fun h => h)
  have f6 : w3.cell? ⟨g, 6, none⟩ = some (.int .i64 off) := hr3.cell 6
  have f7 : w3.cell? ⟨g, 7, none⟩ = some (.string ⟨src.toArray⟩) := hr3.cell 7
  have f8 : w3.cell? ⟨g, 8, none⟩ = some (.string ⟨dst.toArray⟩) := hr3.cell 8
  have f9 : w3.cell? ⟨g, 9, none⟩ = some (.string ⟨opt.toArray⟩) := hr3.cell 9
  have f10 : w3.cell? ⟨g, 10, none⟩ = some (.slice da data.length dc) := hr3.cell 10
  clear hk2 hk3 hr hr3 d0 d1 d2 d3 d6 hwi
  cases ok
  case false =>
    obtain rfl : E = 1 := by rw [HE.out, if_pos (.inl rfl)]
    clear HE
    go_wp2
    go_ret
    first | exact ⟨.inr ⟨by decide, _, rfl, ((RowAt.new _ _ _).cell 1)⟩, hkq.alloc _⟩ | exact ⟨⟨_, rfl, ((RowAt.new _ _ _).cell 1)⟩, hkq.alloc _⟩
  obtain ⟨o1, o2⟩ := HO.out rfl
  have hmod : off.tmod 8 = off % 8 := Int.tmod_eq_emod_of_nonneg o1
  have HM := Lib.hid hmod
  clear hmod
  by_cases h8 : off % 8 = 0
  case neg =>
    obtain rfl : E = 1 := by rw [HE.out, if_pos (.inr (by rw [HM.out]; exact h8))]
    clear HE
    go_wp2
    go_ret
    first | exact ⟨.inr ⟨by decide, _, rfl, ((RowAt.new _ _ _).cell 1)⟩, hkq.alloc _⟩ | exact ⟨⟨_, rfl, ((RowAt.new _ _ _).cell 1)⟩, hkq.alloc _⟩
  have e1 : ¬ (true = false ∨ off.tmod 8 ≠ 0) := by rw [HM.out]; simp [h8]
  by_cases h1 : (src.length : Int) = 4
  case neg =>
    obtain rfl : E = 1 := by rw [HE.out, if_neg e1, if_pos (by omega)]
    clear HE e1
    go_wp2
    go_ret
    first | exact ⟨.inr ⟨by decide, _, rfl, ((RowAt.new _ _ _).cell 1)⟩, hkq.alloc _⟩ | exact ⟨⟨_, rfl, ((RowAt.new _ _ _).cell 1)⟩, hkq.alloc _⟩
  by_cases h2 : (dst.length : Int) = 4
  case neg =>
    obtain rfl : E = 1 := by rw [HE.out, if_neg e1, if_pos (by omega)]
    clear HE e1
    go_wp2
    go_ret
    first | exact ⟨.inr ⟨by decide, _, rfl, ((RowAt.new _ _ _).cell 1)⟩, hkq.alloc _⟩ | exact ⟨⟨_, rfl, ((RowAt.new _ _ _).cell 1)⟩, hkq.alloc _⟩
  have e2 : ¬ (src.length ≠ 4 ∨ dst.length ≠ 4) := by omega
  by_cases h3 : (opt.length : Int) % 4 = 0
  case neg =>
    obtain rfl : E = 1 := by rw [HE.out, if_neg e1, if_neg e2, if_pos (by omega)]
    clear HE e1 e2
    go_wp2
    go_ret
    first | exact ⟨.inr ⟨by decide, _, rfl, ((RowAt.new _ _ _).cell 1)⟩, hkq.alloc _⟩ | exact ⟨⟨_, rfl, ((RowAt.new _ _ _).cell 1)⟩, hkq.alloc _⟩
  by_cases h4 : (40 : Int) < (opt.length : Int)
  case pos =>
    obtain rfl : E = 1 := by rw [HE.out, if_neg e1, if_neg e2, if_pos (by omega)]
    clear HE e1 e2
    go_wp2
    go_ret
    first | exact ⟨.inr ⟨by decide, _, rfl, ((RowAt.new _ _ _).cell 1)⟩, hkq.alloc _⟩ | exact ⟨⟨_, rfl, ((RowAt.new _ _ _).cell 1)⟩, hkq.alloc _⟩
  have h4' : (opt.length : Int) ≤ 40 := by omega
  have e3 : ¬ (opt.length % 4 ≠ 0 ∨ 40 < opt.length) := by omega
  by_cases h5 : (65535 : Int) < 20 + (opt.length : Int) + (data.length : Int)
  case pos =>
    obtain rfl : E = 2 := by rw [HE.out, if_neg e1, if_neg e2, if_neg e3, if_pos (by omega)]
    clear HE e1 e2 e3
    go_wp2
    go_quiet (fail)
    generalize hw4 : World.drewN w3 _ = w4
    have hkq : Keeps (fun _ => False) w w4 := hw4 ▸ hkq.drewN _
    clear hw4
    go_wp2
    go_ret
    first | exact ⟨.inr ⟨by decide, _, rfl, ((RowAt.new _ _ _).cell 1)⟩, hkq.alloc _⟩ | exact ⟨⟨_, rfl, ((RowAt.new _ _ _).cell 1)⟩, hkq.alloc _⟩
  · have h5' : 20 + (opt.length : Int) + (data.length : Int) ≤ 65535 := by omega
    obtain rfl : E = 0 := by rw [HE.out, if_neg e1, if_neg e2, if_neg e3, if_neg (by omega)]
    clear HE e1 e2 e3
    go_wp2
    go_quiet (fail)
    generalize hw4 : World.drewN w3 _ = w4
    have hkq : Keeps (fun _ => False) w w4 := hw4 ▸ hkq.drewN _
    clear hw4
    go_wp2
    go_ret
    first | exact ⟨.inl ⟨rfl, rfl⟩, hkq⟩ | exact ⟨rfl, hkq⟩ | exact ⟨.inl rfl, hkq⟩
end Go.Proofs.YtngpbihnmgjniaaDoor

/-! ip4.Check. -/
namespace Go.Proofs.YtngpbihnmgjniaaDoor
set_option linter.unusedVariables false
set_option linter.unusedSimpArgs false
open Go.RowKit

set_option maxRecDepth 100000 in
set_option maxHeartbeats 4000000 in
theorem pcheck_any (p : P4) (dv : Value) (w : World) (hg : ErrT w) (hd : BRd w dv p.data) (ho : p.opt.length ≤ 100000) (hdl : p.data.length ≤ 100000) :
    Calls Tryd.prog 11 #[.agg (p4cells p dv)] w fun e w' => e = .returned (.int .i64 (checkE p)) ∧ Keeps (fun _ => False) w w' := by
  have hk0 := (Keeps.refl (fun _ => False) w).alloc (.cells (p4cells p dv) 24)
  have hc := check4_any w.heap.size p dv _ (RowAt.new w _ _) (hd.keeps hk0) ho hdl
  go_enter Tryd.func11, Tryd.ntmps11
  go_wp2_with fail
  refine hc.mono ?_
  rintro e w2 ⟨⟨hz, rfl⟩ | ⟨hz, fb, rfl, hf⟩, hk⟩
  · have hk2 := hk0.trans hk (fun _ _ h => h)
    go_wp2_with (go_at_call 16; refine (number_nil _).mono ?_; rintro e w3 ⟨rfl, hk3⟩)
    go_ret
    exact ⟨by rw [hz]; rfl, hk2.trans hk3 (fun _ _ h => h)⟩
  · have hk2 := hk0.trans hk (fun _ _ h => h)
    go_wp2_with (go_at_call 16; refine (number_fault fb _ _ (hg.keeps hk2) hf).mono ?_; rintro e w3 ⟨rfl, hk3⟩)
    go_ret
    exact ⟨rfl, hk2.trans hk3 (fun _ _ h => h)⟩

end Go.Proofs.YtngpbihnmgjniaaDoor

/-! ip4.put; redoubtref01.Two, Check. -/
namespace Go.Proofs.YtngpbihnmgjniaaDoor
set_option linter.unusedVariables false
set_option linter.unusedSimpArgs false
open Go.RowKit

theorem BOwn.lit (w : World) (cs : Array Value) (l : List UInt8) (n B : Nat) (h : cs = (bcells l).toArray) (hn : l.length = n) (hm : n ≤ 1099511627776) (hB : B ≤ w.heap.size) : BOwn (w.alloc (.cells cs 5)) B (.slice (some ⟨w.heap.size, 0, none⟩) n n) l := by
  subst h hn
  refine ⟨by simp [bcells], bcells_one _, .inr ⟨w.heap.size, 0, l.length, _, hB, rfl, Nat.le_refl _, by simp only [maxLen]; omega, RowAt.new w _ _, by simp [bcells], fun j hj => by rw [Nat.zero_add, List.getElem?_toArray]⟩⟩

def b2 (m : Nat) : List UInt8 := [UInt8.ofNat (m / 256), UInt8.ofNat (m % 256)]
theorem b2_hi (m : Nat) (h : m ≤ 65535) : ((UInt8.ofNat (m / 256)).toNat : Int) = (m : Int) / 256 := by rw [UInt8.toNat_ofNat']; omega
theorem b2_lo (m : Nat) : ((UInt8.ofNat (m % 256)).toNat : Int) = (m : Int) % 256 := by rw [UInt8.toNat_ofNat']; omega

set_option maxRecDepth 100000 in
set_option maxHeartbeats 1000000 in
theorem put_any (g off n c B k m : Nat) (L : List UInt8) (w : World) (h : BOwn w B (.slice (some ⟨g, off, none⟩) n c) L) (hk : k + 2 ≤ L.length) (hm : m ≤ 65535) :
    Calls Tryd.prog 17 #[.slice (some ⟨g, off + k, none⟩) (n - k) (c - k), .int .i64 m] w fun e w' => (∃ x, e = .returned x) ∧
      BOwn w' B (.slice (some ⟨g, off, none⟩) n c) ((L.set k (UInt8.ofNat (m / 256))).set (k + 1) (UInt8.ofNat (m % 256))) ∧ Keeps (· = g) w w' := by
  obtain ⟨t1, t2, t3⟩ := h.at k (by omega)
  have h2 := t3 (UInt8.ofNat (m / 256))
  obtain ⟨u1, u2, u3⟩ := h2.at (k + 1) (by rw [List.length_set]; omega)
  have h3 := u3 (UInt8.ofNat (m % 256))
  have hn : n = L.length := by
    obtain ⟨a, c', e, -, -⟩ := h.slice
    simp only [Value.slice.injEq] at e
    exact e.2.1
  have hi := b2_hi m hm
  have lo := b2_lo m
  rw [hi] at h3 u1 u2
  rw [lo] at h3
  have hm' : (m : Int) ≤ 65535 := by omega
  have hm0 : (0 : Int) ≤ (m : Int) := by omega
  have e1 : (m : Int) / 256 % 256 = (m : Int) / 256 := by omega
  have g0 : (0 : Int) < ((n - k : Nat) : Int) := by omega
  have g1 : (1 : Int) < ((n - k : Nat) : Int) := by omega
  obtain ⟨N, hN⟩ : ∃ N, n - k = N := ⟨_, rfl⟩
  rw [hN] at g0 g1 ⊢
  rw [show off + (k + 1) = off + k + 1 by omega] at u1 u2 h3
  have H3 := Lib.hid h3
  clear h3 u3 t3 h2 hN hn hi lo
  go_enter Tryd.func17, Tryd.ntmps17
  go_wp2
  go_end0
  exact ⟨⟨_, rfl⟩, H3.out, (Keeps.setCell (S := (· = g)) (Keeps.setCell (S := (· = g)) (Keeps.refl _ w) ⟨g, off + k, none⟩ _ (.inl rfl)) ⟨g, off + k + 1, none⟩ _ (.inl rfl))⟩

theorem sumF_le : ∀ (k : Nat) (l : List UInt8) (n : Nat), l.length ≤ k → n ≤ 65535 → sumF l n ≤ 65535 := by
  intro k
  induction k with
  | zero =>
    intro l n hl hn
    have : l = [] := List.eq_nil_of_length_eq_zero (by omega)
    rw [this]
    exact hn
  | succ k ih =>
    intro l n hl hn
    by_cases h0 : 0 < l.length
    · rw [sumF_step l n h0]
      exact ih _ _ (by rw [List.length_drop]; omega) (add16_le _ _ hn (wordF_le l))
    · have : l = [] := List.eq_nil_of_length_eq_zero (by omega)
      rw [this]
      exact hn
theorem sum16_le (l : List UInt8) : sum16 l ≤ 65535 := sumF_le _ l 0 (Nat.le_refl _) (by omega)
end Go.Proofs.YtngpbihnmgjniaaDoor

/-! Texts as lists: an index, a part. -/
namespace Go.Proofs.YtngpbihnmgjniaaDoor
set_option linter.unusedVariables false
set_option linter.unusedSimpArgs false
open Go.RowKit

theorem str_size (m : List UInt8) : (ByteArray.mk m.toArray).size = m.length := by simp [ByteArray.size]
theorem str_extract (m : List UInt8) (a b : Nat) : (ByteArray.mk m.toArray).extract a b = ⟨((m.drop a).take (b - a)).toArray⟩ := by
  have h : ((ByteArray.mk m.toArray).extract a b).data = ((m.drop a).take (b - a)).toArray := by
    rw [ByteArray.data_extract]
    apply Array.toList_inj.1
    simp
  generalize (ByteArray.mk m.toArray).extract a b = s at h
  obtain ⟨d⟩ := s
  simp only at h
  rw [h]
theorem str_index (m : List UInt8) (i : Nat) (h : i < (ByteArray.mk m.toArray).size) : ((ByteArray.mk m.toArray)[i]'h).toNat = byF m i := by
  have h' : i < m.length := by rwa [str_size] at h
  show (m.toArray[i]).toNat = _
  simp [byF, h']

end Go.Proofs.YtngpbihnmgjniaaDoor

/-! ip4.Parse, of bytes that may be. -/
namespace Go.Proofs.YtngpbihnmgjniaaDoor
set_option linter.unusedVariables false
set_option linter.unusedSimpArgs false
open Go.RowKit

end Go.Proofs.YtngpbihnmgjniaaDoor

/-! redoubtref03.Parse. -/
namespace Go.Proofs.YtngpbihnmgjniaaDoor
set_option linter.unusedVariables false
set_option linter.unusedSimpArgs false
open Go.RowKit

def p4zc : Array Value := p4cells p4zero (.slice none 0 0)


end Go.Proofs.YtngpbihnmgjniaaDoor
