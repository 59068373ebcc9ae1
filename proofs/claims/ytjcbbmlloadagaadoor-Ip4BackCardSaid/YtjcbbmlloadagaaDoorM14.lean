/- Words, walks and plain laws that the claim leans on, part 14. -/
import Derived.Test.YtjcbbmlloadagaaDoorM6
import Derived.Test.YtjcbbmlloadagaaDoorM7
import Derived.Test.YtjcbbmlloadagaaDoorM10
import Derived.Test.YtjcbbmlloadagaaDoorM11
import Derived.Test.YtjcbbmlloadagaaDoorM13

/-! ip4.Parse. -/
namespace Go.Proofs.YtjcbbmlloadagaaDoor
set_option linter.unusedVariables false
set_option linter.unusedSimpArgs false
open Go.RowKit

/-- A packet: its numbers, its texts, its bytes. -/
structure P4 where
  tos : Int
  id : Int
  ttl : Int
  proto : Int
  df : Bool
  mf : Bool
  off : Int
  src : List UInt8
  dst : List UInt8
  opt : List UInt8
  data : List UInt8
def txt (l : List UInt8) : Value := .string ⟨l.toArray⟩
def p4cells (p : P4) (dv : Value) : Array Value := #[.int .i64 p.tos, .int .i64 p.id, .int .i64 p.ttl, .int .i64 p.proto, .bool p.df, .bool p.mf, .int .i64 p.off, txt p.src, txt p.dst, txt p.opt, dv]
def p4zero : P4 := ⟨0, 0, 0, 0, false, false, 0, [], [], [], []⟩
def parseP (l : List UInt8) : P4 :=
  ⟨byF l 1, twoF l 4, byF l 8, byF l 9, decide (twoF l 6 / 16384 % 2 = 1), decide (twoF l 6 / 8192 % 2 = 1), twoF l 6 % 8192 * 8, (l.drop 12).take 4, (l.drop 16).take 4, (l.drop 20).take (headF l - 20), l.drop (headF l)⟩
/-- What is read of bytes. -/
def P4out (l : List UInt8) : P4 := if parseE l = 0 then parseP l else p4zero
def Parsed (l : List UInt8) (w : World) (e : Ending) (w' : World) : Prop :=
  ∃ dv, e = .returned (.tuple #[.agg (p4cells (P4out l) dv), .int .i64 (parseE l)]) ∧ BRd w' dv (P4out l).data ∧ Keeps (fun _ => False) w w'

theorem and_pow (x i : Nat) : x &&& 2 ^ i = 2 ^ i * (x / 2 ^ i % 2) := by
  rw [← Nat.toNat_testBit]
  apply Nat.eq_of_testBit_eq
  intro j
  rw [Nat.testBit_and, Nat.testBit_two_pow]
  by_cases h : i = j
  · subst h
    cases hb : x.testBit i <;> simp [Nat.testBit_two_pow]
  · cases hb : x.testBit i <;> simp [h, Nat.testBit_two_pow]

theorem parse_facts (l : List UInt8) (h : parseE l = 0) : 20 ≤ l.length ∧ 20 ≤ headF l ∧ headF l ≤ l.length ∧ headF l ≤ 60 ∧ byF l 0 / 16 = 4 ∧ twoF l 2 = l.length ∧ byF l 6 < 128 ∧ sum16 (l.take (headF l)) = 65535 := by
  unfold parseE at h
  have hh : headF l ≤ 60 := by unfold headF; omega
  split at h
  · cases h
  · split at h
    · cases h
    · split at h
      · cases h
      · split at h
        · cases h
        · split at h
          · cases h
          · omega
theorem cutS {w : World} {b off n c : Nat} {l : List UInt8} (h : BRd w (.slice (some ⟨b, off, none⟩) n c) l) (k m : Nat) (hk : k ≤ l.length) (hm : k + m ≤ l.length) :
    ∃ o2, (if c = k then some (⟨b, off, none⟩ : Addr) else some ⟨b, off + k, none⟩) = some ⟨b, o2, none⟩ ∧ ∀ w', Keeps (fun _ => False) w w' → BRd w' (.slice (some ⟨b, o2, none⟩) m (c - k)) ((l.drop k).take m) := by
  obtain ⟨o2, e, h2, -⟩ := BAt.cut h k hk
  have hn := h.slice
  obtain ⟨a, c', e', -, -⟩ := hn
  simp only [Value.slice.injEq] at e'
  obtain ⟨-, rfl, -⟩ := e'
  exact ⟨o2, e, fun w' hk' => BRd.take (BRd.keeps h2 hk') m (by rw [List.length_drop]; omega) (by rw [List.length_drop])⟩

theorem p4_one (p : P4) (dv : Value) (hd : dv.oneCell' = true) : (p4cells p dv).all (·.oneCell') = true := by
  unfold p4cells
  exact all_oneCell_toArray (by intro v hv; simp only [List.mem_cons, List.not_mem_nil, or_false] at hv; rcases hv with rfl | rfl | rfl | rfl | rfl | rfl | rfl | rfl | rfl | rfl | rfl <;> first | rfl | exact hd)

set_option maxRecDepth 100000 in
set_option maxHeartbeats 8000000 in
theorem parse_bad (v : Value) (l : List UInt8) (w : World) (h : BRd w v l) (hg : ErrT w) (hE : parseE l ≠ 0) :
    Calls Tryd.prog 9 #[v] w (Parsed l w) := by
  unfold Parsed P4out
  rw [if_neg hE]
  obtain ⟨va, vc, rfl, hvc, hvm⟩ := h.slice
  have hk0 := (Keeps.refl (fun _ => False) w).alloc (.cells (p4cells p4zero (.slice none 0 0)) 25)
  have hr0 := RowAt.new w (p4cells p4zero (.slice none 0 0)) 25
  have hsh := shape_any _ l _ (h.keeps hk0)
  obtain ⟨E, hEe⟩ : ∃ E, parseE l = E := ⟨_, rfl⟩
  rw [hEe] at hE hsh ⊢
  clear hEe
  go_enter Tryd.func9, Tryd.ntmps9
  go_wp2_with fail
  refine hsh.mono ?_
  rintro e w1 (⟨h0, -, -⟩ | ⟨-, fb, rfl, hf, hk1⟩)
  · exact absurd h0 hE
  have hkA := hk0.trans hk1 (fun _ _ h => h)
  have hr1 := hr0.keeps hk1 (fun h => h)
  go_wp2_with (first | (go_at_call 23; refine (number_fault fb E _ (hg.keeps hkA) hf).mono ?_; rintro e w2 ⟨rfl, hk2⟩; have hr2 := hr1.keeps hk2 (fun h => h)) | (refine wpList_store_whole rfl 25 (.tmp 2) (.tmp 14) rfl w.heap.size (p4cells p4zero (.slice none 0 0)) rfl rfl 25 _ 11 hr2 rfl rfl (by kernel_rfl) (p4_one _ _ rfl) (fun w3 hr3 hk3 => ?_)))
  (try simp only [Exit.inBlock, Exit.then])
  refine ret_cell_tmp 2 3 25 rfl w.heap.size _ _ _ rfl hr3 Tryd.underlying25 rfl (by kernel_rfl) rfl ?_
  exact ⟨_, rfl, BAt.nil _ _, (hkA.trans hk2 (fun _ _ h => h)).own hk3 (Nat.le_refl _)⟩

end Go.Proofs.YtjcbbmlloadagaaDoor

/-! ip4.check: what is wrong with a packet. -/
namespace Go.Proofs.YtjcbbmlloadagaaDoor
set_option linter.unusedVariables false
set_option linter.unusedSimpArgs false
open Go.RowKit

def numsOk (p : P4) : Bool := inAll [p.tos, 255, p.ttl, 255, p.proto, 255, p.id, 65535, p.off, 65528]
def checkE (p : P4) : Int :=
  if numsOk p = false ∨ p.off.tmod 8 ≠ 0 then 1 else if p.src.length ≠ 4 ∨ p.dst.length ≠ 4 then 1 else if p.opt.length % 4 ≠ 0 ∨ 40 < p.opt.length then 1
  else if 65535 < 20 + p.opt.length + p.data.length then 2 else 0

/-- A call's end: nil, or a fault with the number k. -/
def ErrIs (k : Int) (w : World) (e : Ending) (w' : World) : Prop :=
  ((k = 0 ∧ e = .returned .nilIface) ∨ (k ≠ 0 ∧ ∃ fb, e = .returned (.iface 62 (.pointer (some ⟨fb, 0, none⟩))) ∧ w'.cell? ⟨fb, 1, none⟩ = some (.iface 26 (.int .i64 k)))) ∧ Keeps (fun _ => False) w w'


set_option maxRecDepth 100000 in
set_option maxHeartbeats 4000000 in
theorem check4_any (g : Nat) (p : P4) (dv : Value) (w : World) (hr : RowAt w g (p4cells p dv) 25) (hd : BRd w dv p.data) (ho : p.opt.length ≤ 100000) (hdl : p.data.length ≤ 100000) :
    Calls Tryd.prog 29 #[.pointer (some ⟨g, 0, none⟩)] w (ErrIs (checkE p) w) := by
  obtain ⟨tos, id, ttl, proto, df, mf, off, src, dst, opt, data⟩ := p
  simp only at hd ho hdl
  obtain ⟨da, dc, rfl, -, -⟩ := hd.slice
  have hEq : checkE ⟨tos, id, ttl, proto, df, mf, off, src, dst, opt, data⟩ = (if numsOk ⟨tos, id, ttl, proto, df, mf, off, src, dst, opt, data⟩ = false ∨ off.tmod 8 ≠ 0 then 1 else if src.length ≠ 4 ∨ dst.length ≠ 4 then 1 else if opt.length % 4 ≠ 0 ∨ 40 < opt.length then 1
    else if 65535 < 20 + opt.length + data.length then 2 else 0) := rfl
  have hno : numsOk ⟨tos, id, ttl, proto, df, mf, off, src, dst, opt, data⟩ = inAll [tos, 255, ttl, 255, proto, 255, id, 65535, off, 65528] := rfl
  rw [hno] at hEq
  obtain ⟨E, hE⟩ : ∃ E, checkE ⟨tos, id, ttl, proto, df, mf, off, src, dst, opt, data⟩ = E := ⟨_, rfl⟩
  rw [hE] at hEq ⊢
  clear hE hno
  have d0 : w.cell? ⟨g, 0, none⟩ = some (.int .i64 tos) := hr.cell 0
  have d1 : w.cell? ⟨g, 1, none⟩ = some (.int .i64 id) := hr.cell 1
  have d2 : w.cell? ⟨g, 2, none⟩ = some (.int .i64 ttl) := hr.cell 2
  have d3 : w.cell? ⟨g, 3, none⟩ = some (.int .i64 proto) := hr.cell 3
  have d6 : w.cell? ⟨g, 6, none⟩ = some (.int .i64 off) := hr.cell 6
  have hwi := fun (W : World) => within_any (.slice (some ⟨W.heap.size, 0, none⟩) 10 10) [tos, 255, ttl, 255, proto, 255, id, 65535, off, 65528] 5 (W.alloc (.cells #[.int .i64 tos, .int .i64 255, .int .i64 ttl, .int .i64 255, .int .i64 proto, .int .i64 255, .int .i64 id, .int .i64 65535, .int .i64 off, .int .i64 65528] 3)) (ZAt.low (ZAt.lit W _ _ 10 3 rfl rfl (by omega))) rfl (by omega)
  obtain ⟨ok, hok⟩ : ∃ b, inAll [tos, 255, ttl, 255, proto, 255, id, 65535, off, 65528] = b := ⟨_, rfl⟩
  have hoff : ok = true → 0 ≤ off ∧ off ≤ 65528 := by
    intro h
    rw [h] at hok
    simp [inAll] at hok
    omega
  rw [hok] at hEq hwi
  have HE := Lib.hid hEq
  have HO := Lib.hid hoff
  have hol : (opt.length : Int) ≤ 100000 := by omega
  have hdl' : (data.length : Int) ≤ 100000 := by omega
  clear hEq hok hoff
  go_enter Tryd.func29, Tryd.ntmps29
  go_wp2
  refine region_draws_tail 20 (by kernel_rfl) (by kernel_rfl) ?_
  simp only [List.take_succ_cons, List.take_zero, List.drop_succ_cons, List.drop_zero]
  repeat (go_big_quiet_step (fail))
  refine wpQuiet_nil ?_
  rintro _ ⟨nq, rfl⟩
  generalize hw2 : World.drewN w _ = w2
  have hk2 : Keeps (fun _ => False) w w2 := hw2 ▸ (Keeps.refl _ w).drewN _
  clear hw2
  go_wp2_with fail
  refine (hwi w2).mono ?_
  rintro e w3 ⟨rfl, hk3⟩
  have hkq : Keeps (fun _ => False) w w3 := (hk2.alloc _).trans hk3 (fun _ _ h => h)
  have hr3 := hr.keeps hkq (fun h => h)
  have f6 : w3.cell? ⟨g, 6, none⟩ = some (.int .i64 off) := hr3.cell 6
  have f7 : w3.cell? ⟨g, 7, none⟩ = some (.string ⟨src.toArray⟩) := hr3.cell 7
  have f8 : w3.cell? ⟨g, 8, none⟩ = some (.string ⟨dst.toArray⟩) := hr3.cell 8
  have f9 : w3.cell? ⟨g, 9, none⟩ = some (.string ⟨opt.toArray⟩) := hr3.cell 9
  have f10 : w3.cell? ⟨g, 10, none⟩ = some (.slice da data.length dc) := hr3.cell 10
  clear hk2 hk3 hr hr3 d0 d1 d2 d3 d6 hwi
  cases ok
  case false =>
    obtain rfl : E = 1 := by rw [HE.out, if_pos (.inl rfl)]
    clear HE
    go_wp2
    go_ret
    first | exact ⟨.inr ⟨by decide, _, rfl, ((RowAt.new _ _ _).cell 1)⟩, hkq.alloc _⟩ | exact ⟨⟨_, rfl, ((RowAt.new _ _ _).cell 1)⟩, hkq.alloc _⟩
  obtain ⟨o1, o2⟩ := HO.out rfl
  have hmod : off.tmod 8 = off % 8 := Int.tmod_eq_emod_of_nonneg o1
  have HM := Lib.hid hmod
  clear hmod
  by_cases h8 : off % 8 = 0
  case neg =>
    obtain rfl : E = 1 := by rw [HE.out, if_pos (.inr (by rw [HM.out]; exact h8))]
    clear HE
    go_wp2
    go_ret
    first | exact ⟨.inr ⟨by decide, _, rfl, ((RowAt.new _ _ _).cell 1)⟩, hkq.alloc _⟩ | exact ⟨⟨_, rfl, ((RowAt.new _ _ _).cell 1)⟩, hkq.alloc _⟩
  have e1 : ¬ (true = false ∨ off.tmod 8 ≠ 0) := by rw [HM.out]; simp [h8]
  by_cases h1 : (src.length : Int) = 4
  case neg =>
    obtain rfl : E = 1 := by rw [HE.out, if_neg e1, if_pos (by omega)]
    clear HE e1
    go_wp2
    go_ret
    first | exact ⟨.inr ⟨by decide, _, rfl, ((RowAt.new _ _ _).cell 1)⟩, hkq.alloc _⟩ | exact ⟨⟨_, rfl, ((RowAt.new _ _ _).cell 1)⟩, hkq.alloc _⟩
  by_cases h2 : (dst.length : Int) = 4
  case neg =>
    obtain rfl : E = 1 := by rw [HE.out, if_neg e1, if_pos (by omega)]
    clear HE e1
    go_wp2
    go_ret
    first | exact ⟨.inr ⟨by decide, _, rfl, ((RowAt.new _ _ _).cell 1)⟩, hkq.alloc _⟩ | exact ⟨⟨_, rfl, ((RowAt.new _ _ _).cell 1)⟩, hkq.alloc _⟩
  have e2 : ¬ (src.length ≠ 4 ∨ dst.length ≠ 4) := by omega
  by_cases h3 : (opt.length : Int) % 4 = 0
  case neg =>
    obtain rfl : E = 1 := by rw [HE.out, if_neg e1, if_neg e2, if_pos (by omega)]
    clear HE e1 e2
    go_wp2
    go_ret
    first | exact ⟨.inr ⟨by decide, _, rfl, ((RowAt.new _ _ _).cell 1)⟩, hkq.alloc _⟩ | exact ⟨⟨_, rfl, ((RowAt.new _ _ _).cell 1)⟩, hkq.alloc _⟩
  by_cases h4 : (40 : Int) < (opt.length : Int)
  case pos =>
    obtain rfl : E = 1 := by rw [HE.out, if_neg e1, if_neg e2, if_pos (by omega)]
    clear HE e1 e2
    go_wp2
    go_ret
    first | exact ⟨.inr ⟨by decide, _, rfl, ((RowAt.new _ _ _).cell 1)⟩, hkq.alloc _⟩ | exact ⟨⟨_, rfl, ((RowAt.new _ _ _).cell 1)⟩, hkq.alloc _⟩
  have h4' : (opt.length : Int) ≤ 40 := by omega
  have e3 : ¬ (opt.length % 4 ≠ 0 ∨ 40 < opt.length) := by omega
  by_cases h5 : (65535 : Int) < 20 + (opt.length : Int) + (data.length : Int)
  case pos =>
    obtain rfl : E = 2 := by rw [HE.out, if_neg e1, if_neg e2, if_neg e3, if_pos (by omega)]
    clear HE e1 e2 e3
    go_wp2
    go_quiet (fail)
    generalize hw4 : World.drewN w3 _ = w4
    have hkq : Keeps (fun _ => False) w w4 := hw4 ▸ hkq.drewN _
    clear hw4
    go_wp2
    go_ret
    first | exact ⟨.inr ⟨by decide, _, rfl, ((RowAt.new _ _ _).cell 1)⟩, hkq.alloc _⟩ | exact ⟨⟨_, rfl, ((RowAt.new _ _ _).cell 1)⟩, hkq.alloc _⟩
  · have h5' : 20 + (opt.length : Int) + (data.length : Int) ≤ 65535 := by omega
    obtain rfl : E = 0 := by rw [HE.out, if_neg e1, if_neg e2, if_neg e3, if_neg (by omega)]
    clear HE e1 e2 e3
    go_wp2
    go_quiet (fail)
    generalize hw4 : World.drewN w3 _ = w4
    have hkq : Keeps (fun _ => False) w w4 := hw4 ▸ hkq.drewN _
    clear hw4
    go_wp2
    go_ret
    first | exact ⟨.inl ⟨rfl, rfl⟩, hkq⟩ | exact ⟨rfl, hkq⟩ | exact ⟨.inl rfl, hkq⟩
end Go.Proofs.YtjcbbmlloadagaaDoor

/-! ip4.Check. -/
namespace Go.Proofs.YtjcbbmlloadagaaDoor
set_option linter.unusedVariables false
set_option linter.unusedSimpArgs false
open Go.RowKit

set_option maxRecDepth 100000 in
set_option maxHeartbeats 4000000 in
theorem pcheck_any (p : P4) (dv : Value) (w : World) (hg : ErrT w) (hd : BRd w dv p.data) (ho : p.opt.length ≤ 100000) (hdl : p.data.length ≤ 100000) :
    Calls Tryd.prog 19 #[.agg (p4cells p dv)] w fun e w' => e = .returned (.int .i64 (checkE p)) ∧ Keeps (fun _ => False) w w' := by
  have hk0 := (Keeps.refl (fun _ => False) w).alloc (.cells (p4cells p dv) 25)
  have hc := check4_any w.heap.size p dv _ (RowAt.new w _ _) (hd.keeps hk0) ho hdl
  go_enter Tryd.func19, Tryd.ntmps19
  go_wp2_with fail
  refine hc.mono ?_
  rintro e w2 ⟨⟨hz, rfl⟩ | ⟨hz, fb, rfl, hf⟩, hk⟩
  · have hk2 := hk0.trans hk (fun _ _ h => h)
    go_wp2_with (go_at_call 23; refine (number_nil _).mono ?_; rintro e w3 ⟨rfl, hk3⟩)
    go_ret
    exact ⟨by rw [hz]; rfl, hk2.trans hk3 (fun _ _ h => h)⟩
  · have hk2 := hk0.trans hk (fun _ _ h => h)
    go_wp2_with (go_at_call 23; refine (number_fault fb _ _ (hg.keeps hk2) hf).mono ?_; rintro e w3 ⟨rfl, hk3⟩)
    go_ret
    exact ⟨rfl, hk2.trans hk3 (fun _ _ h => h)⟩

theorem in_any (n m : Int) (w : World) : Calls Tryd.prog 32 #[.int .i64 n, .int .i64 m] w fun e w' => e = .returned (.bool (decide (0 ≤ n) && decide (n ≤ m))) ∧ w = w' := by
  by_cases h : 0 ≤ n
  · have hd : decide (0 ≤ n) = true := decide_eq_true h
    go_enter Tryd.func32, Tryd.ntmps32
    go_wp2
    go_ret
    exact ⟨by simp; intro _; exact h, rfl⟩
  · have h' : n < 0 := by omega
    go_enter Tryd.func32, Tryd.ntmps32
    go_wp2
    go_ret
    exact ⟨by simp; omega, rfl⟩


set_option maxRecDepth 100000 in
set_option maxHeartbeats 4000000 in
theorem rcheck_any (p : P4) (dv : Value) (w : World) (hd : BRd w dv p.data) (ho : p.opt.length ≤ 100000) (hdl : p.data.length ≤ 100000) :
    Calls Tryd.prog 18 #[.agg (p4cells p dv)] w fun e w' => e = .returned (.int .i64 (checkE p)) ∧ Keeps (fun _ => False) w w' := by
  obtain ⟨tos, id, ttl, proto, df, mf, off, src, dst, opt, data⟩ := p
  simp only at hd ho hdl
  obtain ⟨da, dc, rfl, -, -⟩ := hd.slice
  have hEq : checkE ⟨tos, id, ttl, proto, df, mf, off, src, dst, opt, data⟩ = (if inAll [tos, 255, ttl, 255, proto, 255, id, 65535, off, 65528] = false ∨ off.tmod 8 ≠ 0 then 1 else if src.length ≠ 4 ∨ dst.length ≠ 4 then 1 else if opt.length % 4 ≠ 0 ∨ 40 < opt.length then 1
    else if 65535 < 20 + opt.length + data.length then 2 else 0) := rfl
  obtain ⟨E, hE⟩ : ∃ E, checkE ⟨tos, id, ttl, proto, df, mf, off, src, dst, opt, data⟩ = E := ⟨_, rfl⟩
  rw [hE] at hEq ⊢
  clear hE
  unfold p4cells txt
  simp only
  have hk0 := (Keeps.refl (fun _ => False) w).alloc (.cells #[.int .i64 tos, .int .i64 id, .int .i64 ttl, .int .i64 proto, .bool df, .bool mf, .int .i64 off, .string ⟨src.toArray⟩, .string ⟨dst.toArray⟩, .string ⟨opt.toArray⟩, .slice da data.length dc] 25)
  have hol : (opt.length : Int) ≤ 100000 := by omega
  have hdl' : (data.length : Int) ≤ 100000 := by omega
  by_cases hin : inAll [tos, 255, ttl, 255, proto, 255, id, 65535, off, 65528] = true
  case neg =>
    have hin' : inAll [tos, 255, ttl, 255, proto, 255, id, 65535, off, 65528] = false := by simpa using hin
    obtain rfl : E = 1 := by rw [hEq, if_pos (.inl hin')]
    have hx : ¬ ((0 ≤ tos ∧ tos ≤ 255) ∧ (0 ≤ ttl ∧ ttl ≤ 255) ∧ (0 ≤ proto ∧ proto ≤ 255) ∧ (0 ≤ id ∧ id ≤ 65535) ∧ (0 ≤ off ∧ off ≤ 65528)) := fun h => hin (by simp [inAll]; omega)
    clear hEq hin hin'
    go_enter Tryd.func18, Tryd.ntmps18
    by_cases a1 : 0 ≤ tos ∧ tos ≤ 255
    case neg =>
      have b1 : (decide (0 ≤ tos) && decide (tos ≤ 255)) = false := by simpa using a1
      clear hx
      go_wp2_with (go_at_call 32; refine (in_any _ _ _).mono ?_; rintro e w2 ⟨rfl, rfl⟩)
      go_ret
      exact ⟨rfl, hk0⟩
    have b1 : (decide (0 ≤ tos) && decide (tos ≤ 255)) = true := by simpa using a1
    by_cases a2 : 0 ≤ ttl ∧ ttl ≤ 255
    case neg =>
      have b2 : (decide (0 ≤ ttl) && decide (ttl ≤ 255)) = false := by simpa using a2
      clear hx
      go_wp2_with (go_at_call 32; refine (in_any _ _ _).mono ?_; rintro e w2 ⟨rfl, rfl⟩)
      go_ret
      exact ⟨rfl, hk0⟩
    have b2 : (decide (0 ≤ ttl) && decide (ttl ≤ 255)) = true := by simpa using a2
    by_cases a3 : 0 ≤ proto ∧ proto ≤ 255
    case neg =>
      have b3 : (decide (0 ≤ proto) && decide (proto ≤ 255)) = false := by simpa using a3
      clear hx
      go_wp2_with (go_at_call 32; refine (in_any _ _ _).mono ?_; rintro e w2 ⟨rfl, rfl⟩)
      go_ret
      exact ⟨rfl, hk0⟩
    have b3 : (decide (0 ≤ proto) && decide (proto ≤ 255)) = true := by simpa using a3
    by_cases a4 : 0 ≤ id ∧ id ≤ 65535
    case neg =>
      have b4 : (decide (0 ≤ id) && decide (id ≤ 65535)) = false := by simpa using a4
      clear hx
      go_wp2_with (go_at_call 32; refine (in_any _ _ _).mono ?_; rintro e w2 ⟨rfl, rfl⟩)
      go_ret
      exact ⟨rfl, hk0⟩
    have b4 : (decide (0 ≤ id) && decide (id ≤ 65535)) = true := by simpa using a4
    have b5 : (decide (0 ≤ off) && decide (off ≤ 65528)) = false := by
      have : ¬ (0 ≤ off ∧ off ≤ 65528) := fun h => hx ⟨a1, a2, a3, a4, h⟩
      simpa using this
    clear hx
    go_wp2_with (go_at_call 32; refine (in_any _ _ _).mono ?_; rintro e w2 ⟨rfl, rfl⟩)
    go_ret
    exact ⟨rfl, hk0⟩
  have hin2 := hin
  simp [inAll] at hin2
  have p0 : 0 ≤ tos := by omega
  have r0 : tos ≤ 255 := by omega
  have p1 : 0 ≤ ttl := by omega
  have r1 : ttl ≤ 255 := by omega
  have p2 : 0 ≤ proto := by omega
  have r2 : proto ≤ 255 := by omega
  have p3 : 0 ≤ id := by omega
  have r3 : id ≤ 65535 := by omega
  have p4 : 0 ≤ off := by omega
  have r4 : off ≤ 65528 := by omega
  have o1 : 0 ≤ off := by omega
  have hmod : off.tmod 8 = off % 8 := Int.tmod_eq_emod_of_nonneg o1
  rw [hmod, hin] at hEq
  have HE := Lib.hid hEq
  clear hEq hin hin2 hmod
  go_enter Tryd.func18, Tryd.ntmps18
  by_cases h8 : off % 8 = 0
  case neg =>
    obtain rfl : E = 1 := by rw [HE.out, if_pos (.inr h8)]
    clear HE
    go_wp2_with (go_at_call 32; refine (in_any _ _ _).mono ?_; rintro e w2 ⟨rfl, rfl⟩)
    go_ret
    exact ⟨rfl, hk0⟩
  have e1 : ¬ (true = false ∨ off % 8 ≠ 0) := by simp [h8]
  by_cases h1 : (src.length : Int) = 4
  case neg =>
    obtain rfl : E = 1 := by rw [HE.out, if_neg e1, if_pos (by omega)]
    clear HE e1
    go_wp2_with (go_at_call 32; refine (in_any _ _ _).mono ?_; rintro e w2 ⟨rfl, rfl⟩)
    go_ret
    exact ⟨rfl, hk0⟩
  by_cases h2 : (dst.length : Int) = 4
  case neg =>
    obtain rfl : E = 1 := by rw [HE.out, if_neg e1, if_pos (by omega)]
    clear HE e1
    go_wp2_with (go_at_call 32; refine (in_any _ _ _).mono ?_; rintro e w2 ⟨rfl, rfl⟩)
    go_ret
    exact ⟨rfl, hk0⟩
  have e2 : ¬ (src.length ≠ 4 ∨ dst.length ≠ 4) := by omega
  by_cases h3 : (opt.length : Int) % 4 = 0
  case neg =>
    obtain rfl : E = 1 := by rw [HE.out, if_neg e1, if_neg e2, if_pos (by omega)]
    clear HE e1 e2
    go_wp2_with (go_at_call 32; refine (in_any _ _ _).mono ?_; rintro e w2 ⟨rfl, rfl⟩)
    go_ret
    exact ⟨rfl, hk0⟩
  by_cases h4 : (40 : Int) < (opt.length : Int)
  case pos =>
    obtain rfl : E = 1 := by rw [HE.out, if_neg e1, if_neg e2, if_pos (by omega)]
    clear HE e1 e2
    go_wp2_with (go_at_call 32; refine (in_any _ _ _).mono ?_; rintro e w2 ⟨rfl, rfl⟩)
    go_ret
    exact ⟨rfl, hk0⟩
  have h4' : (opt.length : Int) ≤ 40 := by omega
  have e3 : ¬ (opt.length % 4 ≠ 0 ∨ 40 < opt.length) := by omega
  by_cases h5 : (65535 : Int) < 20 + (opt.length : Int) + (data.length : Int)
  case pos =>
    obtain rfl : E = 2 := by rw [HE.out, if_neg e1, if_neg e2, if_neg e3, if_pos (by omega)]
    clear HE e1 e2 e3
    go_wp2_with (go_at_call 32; refine (in_any _ _ _).mono ?_; rintro e w2 ⟨rfl, rfl⟩)
    go_ret
    exact ⟨rfl, hk0⟩
  have h5' : 20 + (opt.length : Int) + (data.length : Int) ≤ 65535 := by omega
  obtain rfl : E = 0 := by rw [HE.out, if_neg e1, if_neg e2, if_neg e3, if_neg (by omega)]
  clear HE e1 e2 e3
  go_wp2_with (go_at_call 32; refine (in_any _ _ _).mono ?_; rintro e w2 ⟨rfl, rfl⟩)
  go_ret
  exact ⟨rfl, hk0⟩
end Go.Proofs.YtjcbbmlloadagaaDoor

/-! ip4.put; redoubtref01.Two, Check. -/
namespace Go.Proofs.YtjcbbmlloadagaaDoor
set_option linter.unusedVariables false
set_option linter.unusedSimpArgs false
open Go.RowKit

theorem BOwn.lit (w : World) (cs : Array Value) (l : List UInt8) (n B : Nat) (h : cs = (bcells l).toArray) (hn : l.length = n) (hm : n ≤ 1099511627776) (hB : B ≤ w.heap.size) : BOwn (w.alloc (.cells cs 5)) B (.slice (some ⟨w.heap.size, 0, none⟩) n n) l := by
  subst h hn
  refine ⟨by simp [bcells], bcells_one _, .inr ⟨w.heap.size, 0, l.length, _, hB, rfl, Nat.le_refl _, by simp only [maxLen]; omega, RowAt.new w _ _, by simp [bcells], fun j hj => by rw [Nat.zero_add, List.getElem?_toArray]⟩⟩

def b2 (m : Nat) : List UInt8 := [UInt8.ofNat (m / 256), UInt8.ofNat (m % 256)]
theorem b2_hi (m : Nat) (h : m ≤ 65535) : ((UInt8.ofNat (m / 256)).toNat : Int) = (m : Int) / 256 := by rw [UInt8.toNat_ofNat']; omega
theorem b2_lo (m : Nat) : ((UInt8.ofNat (m % 256)).toNat : Int) = (m : Int) % 256 := by rw [UInt8.toNat_ofNat']; omega

set_option maxRecDepth 100000 in
set_option maxHeartbeats 1000000 in
theorem put_any (g off n c B k m : Nat) (L : List UInt8) (w : World) (h : BOwn w B (.slice (some ⟨g, off, none⟩) n c) L) (hk : k + 2 ≤ L.length) (hm : m ≤ 65535) :
    Calls Tryd.prog 30 #[.slice (some ⟨g, off + k, none⟩) (n - k) (c - k), .int .i64 m] w fun e w' => (∃ x, e = .returned x) ∧
      BOwn w' B (.slice (some ⟨g, off, none⟩) n c) ((L.set k (UInt8.ofNat (m / 256))).set (k + 1) (UInt8.ofNat (m % 256))) ∧ Keeps (· = g) w w' := by
  obtain ⟨t1, t2, t3⟩ := h.at k (by omega)
  have h2 := t3 (UInt8.ofNat (m / 256))
  obtain ⟨u1, u2, u3⟩ := h2.at (k + 1) (by rw [List.length_set]; omega)
  have h3 := u3 (UInt8.ofNat (m % 256))
  have hn : n = L.length := by
    obtain ⟨a, c', e, -, -⟩ := h.slice
    simp only [Value.slice.injEq] at e
    exact e.2.1
  have hi := b2_hi m hm
  have lo := b2_lo m
  rw [hi] at h3 u1 u2
  rw [lo] at h3
  have hm' : (m : Int) ≤ 65535 := by omega
  have hm0 : (0 : Int) ≤ (m : Int) := by omega
  have e1 : (m : Int) / 256 % 256 = (m : Int) / 256 := by omega
  have g0 : (0 : Int) < ((n - k : Nat) : Int) := by omega
  have g1 : (1 : Int) < ((n - k : Nat) : Int) := by omega
  obtain ⟨N, hN⟩ : ∃ N, n - k = N := ⟨_, rfl⟩
  rw [hN] at g0 g1 ⊢
  rw [show off + (k + 1) = off + k + 1 by omega] at u1 u2 h3
  have H3 := Lib.hid h3
  clear h3 u3 t3 h2 hN hn hi lo
  go_enter Tryd.func30, Tryd.ntmps30
  go_wp2
  go_end0
  exact ⟨⟨_, rfl⟩, H3.out, (Keeps.setCell (S := (· = g)) (Keeps.setCell (S := (· = g)) (Keeps.refl _ w) ⟨g, off + k, none⟩ _ (.inl rfl)) ⟨g, off + k + 1, none⟩ _ (.inl rfl))⟩

set_option maxRecDepth 100000 in
set_option maxHeartbeats 1000000 in
theorem rtwo_any (m : Nat) (w : World) (hm : m ≤ 65535) : Calls Tryd.prog 33 #[.int .i64 m] w (Gives (b2 m) w) := by
  have hi := b2_hi m hm
  have lo := b2_lo m
  have hm' : (m : Int) ≤ 65535 := by omega
  have hm0 : (0 : Int) ≤ (m : Int) := by omega
  have e1 : (m : Int) / 256 % 256 = (m : Int) / 256 := by omega
  have hc : (#[.int .u8 ((m : Int) / 256), .int .u8 ((m : Int) % 256)] : Array Value) = (bcells (b2 m)).toArray := by
    rw [← hi, ← lo]; rfl
  have HC := Lib.hid hc
  clear hc hi lo
  go_enter Tryd.func33, Tryd.ntmps33
  go_wp2
  go_ret
  exact ⟨_, rfl, BOwn.lit w _ (b2 m) 2 _ HC.out rfl (by omega) (Nat.le_refl _), (Keeps.refl _ _).alloc _⟩

theorem sumF_le : ∀ (k : Nat) (l : List UInt8) (n : Nat), l.length ≤ k → n ≤ 65535 → sumF l n ≤ 65535 := by
  intro k
  induction k with
  | zero =>
    intro l n hl hn
    have : l = [] := List.eq_nil_of_length_eq_zero (by omega)
    rw [this]
    exact hn
  | succ k ih =>
    intro l n hl hn
    by_cases h0 : 0 < l.length
    · rw [sumF_step l n h0]
      exact ih _ _ (by rw [List.length_drop]; omega) (add16_le _ _ hn (wordF_le l))
    · have : l = [] := List.eq_nil_of_length_eq_zero (by omega)
      rw [this]
      exact hn
theorem sum16_le (l : List UInt8) : sum16 l ≤ 65535 := sumF_le _ l 0 (Nat.le_refl _) (by omega)
theorem rchk_any (v : Value) (l : List UInt8) (w : World) (h : BRd w v l) (hl : l.length ≤ 1000000) :
    Calls Tryd.prog 34 #[v] w fun e w' => e = .returned (.int .i64 ((65535 - sum16 l : Nat) : Int)) ∧ w = w' := by
  have hs := sum16_le l
  have e1 : (65535 : Int) - (sum16 l : Int) = ((65535 - sum16 l : Nat) : Int) := by omega
  have hs' : (sum16 l : Int) ≤ 65535 := by omega
  go_enter Tryd.func34, Tryd.ntmps34
  go_wp2_with (go_at_call 27; refine (rsum_any _ l _ h hl).mono ?_; rintro e w' ⟨rfl, rfl⟩)
  go_ret
  exact ⟨ret_int (by omega), rfl⟩
end Go.Proofs.YtjcbbmlloadagaaDoor

/-! Texts as lists: an index, a part. -/
namespace Go.Proofs.YtjcbbmlloadagaaDoor
set_option linter.unusedVariables false
set_option linter.unusedSimpArgs false
open Go.RowKit

theorem str_size (m : List UInt8) : (ByteArray.mk m.toArray).size = m.length := by simp [ByteArray.size]
theorem str_extract (m : List UInt8) (a b : Nat) : (ByteArray.mk m.toArray).extract a b = ⟨((m.drop a).take (b - a)).toArray⟩ := by
  have h : ((ByteArray.mk m.toArray).extract a b).data = ((m.drop a).take (b - a)).toArray := by
    rw [ByteArray.data_extract]
    apply Array.toList_inj.1
    simp
  generalize (ByteArray.mk m.toArray).extract a b = s at h
  obtain ⟨d⟩ := s
  simp only at h
  rw [h]
theorem str_index (m : List UInt8) (i : Nat) (h : i < (ByteArray.mk m.toArray).size) : ((ByteArray.mk m.toArray)[i]'h).toNat = byF m i := by
  have h' : i < m.length := by rwa [str_size] at h
  show (m.toArray[i]).toNat = _
  simp [byF, h']

end Go.Proofs.YtjcbbmlloadagaaDoor

/-! ip4.Parse, of bytes that may be. -/
namespace Go.Proofs.YtjcbbmlloadagaaDoor
set_option linter.unusedVariables false
set_option linter.unusedSimpArgs false
open Go.RowKit

set_option maxRecDepth 100000 in
set_option maxHeartbeats 8000000 in
theorem parse_ok (v : Value) (l : List UInt8) (w : World) (h : BRd w v l) (hl : l.length ≤ 100000) (hE : parseE l = 0) :
    Calls Tryd.prog 9 #[v] w (Parsed l w) := by
  unfold Parsed P4out
  rw [if_pos hE]
  obtain ⟨f1, f2, f3, f4, -, -, -, -⟩ := parse_facts l hE
  obtain ⟨b, off, vc, rfl, hvc, hvm⟩ := h.at0 (by omega)
  have hk0 := (Keeps.refl (fun _ => False) w).alloc (.cells (p4cells p4zero (.slice none 0 0)) 25)
  have hr0 := RowAt.new w (p4cells p4zero (.slice none 0 0)) 25
  have hsh := shape_any _ l _ (h.keeps hk0)
  simp only [maxLen] at hvm
  obtain ⟨o4, e4, s4⟩ := cutS h 4 (l.length - 4) (by omega) (by omega)
  rw [if_neg (by omega)] at e4
  obtain rfl : off + 4 = o4 := by simpa using e4
  obtain ⟨o6, e6, s6⟩ := cutS h 6 (l.length - 6) (by omega) (by omega)
  rw [if_neg (by omega)] at e6
  obtain rfl : off + 6 = o6 := by simpa using e6
  obtain ⟨o12, e12, s12⟩ := cutS h 12 4 (by omega) (by omega)
  rw [if_neg (by omega)] at e12
  obtain rfl : off + 12 = o12 := by simpa using e12
  obtain ⟨o16, e16, s16⟩ := cutS h 16 4 (by omega) (by omega)
  rw [if_neg (by omega)] at e16
  obtain rfl : off + 16 = o16 := by simpa using e16
  obtain ⟨o20, e20, s20⟩ := cutS h 20 (headF l - 20) (by omega) (by omega)
  obtain ⟨oH, eH, sH⟩ := cutS h (headF l) (l.length - headF l) (by omega) (by omega)
  rw [List.take_of_length_le (by rw [List.length_drop]; omega)] at s4 s6 sH
  have hget4 := fun w' (hk : Keeps (fun _ => False) w w') => get_any _ (l.drop 4) w' (s4 w' hk) (by rw [List.length_drop]; omega)
  have hget6 := fun w' (hk : Keeps (fun _ => False) w w') => get_any _ (l.drop 6) w' (s6 w' hk) (by rw [List.length_drop]; omega)
  have hclone := fun w' (hk : Keeps (fun _ => False) w w') => clone_any _ (l.drop (headF l)) w' _ (sH w' hk) (by rw [List.length_drop]; omega)
  rw [twoF_drop] at hget4 hget6
  have hP : parseP l = ⟨byF l 1, twoF l 4, byF l 8, byF l 9, decide (twoF l 6 / 16384 % 2 = 1), decide (twoF l 6 / 8192 % 2 = 1), twoF l 6 % 8192 * 8, (l.drop 12).take 4, (l.drop 16).take 4, (l.drop 20).take (headF l - 20), l.drop (headF l)⟩ := rfl
  have hC : ∀ w', Keeps (fun _ => False) w w' → w'.cell? ⟨b, off + 1, none⟩ = some (.int .u8 (byF l 1 : Int)) ∧ w'.cell? ⟨b, off + 8, none⟩ = some (.int .u8 (byF l 8 : Int)) ∧ w'.cell? ⟨b, off + 9, none⟩ = some (.int .u8 (byF l 9 : Int)) ∧
      (convert 22 9 (.slice (some ⟨b, off + 12, none⟩) 4 (vc - 12))).run Tryd.prog w' = .ok (.string ⟨((l.drop 12).take 4).toArray⟩) w' ∧ (convert 22 9 (.slice (some ⟨b, off + 16, none⟩) 4 (vc - 16))).run Tryd.prog w' = .ok (.string ⟨((l.drop 16).take 4).toArray⟩) w' ∧
      (convert 22 9 (.slice (some ⟨b, o20, none⟩) (headF l - 20) (vc - 20))).run Tryd.prog w' = .ok (.string ⟨((l.drop 20).take (headF l - 20)).toArray⟩) w' := fun w' hk =>
    ⟨(h.keeps hk).cellF 1 (by omega), (h.keeps hk).cellF 8 (by omega), (h.keeps hk).cellF 9 (by omega), (s12 w' hk).text, (s16 w' hk).text, (s20 w' hk).text⟩
  have b1 := byF_lt l 1
  have b8 := byF_lt l 8
  have b9 := byF_lt l 9
  have bO := twoF_le l 6
  have a14 := i64_and_nat (twoF l 6) 16384 (by omega) (by omega)
  have a13 := i64_and_nat (twoF l 6) 8192 (by omega) (by omega)
  have aM := i64_and_nat (twoF l 6) 8191 (by omega) (by omega)
  rw [show (16384 : Nat) = 2 ^ 14 from rfl, and_pow] at a14
  rw [show (8192 : Nat) = 2 ^ 13 from rfl, and_pow] at a13
  rw [show (8191 : Nat) = 2 ^ 13 - 1 from rfl, Nat.and_two_pow_sub_one_eq_mod] at aM
  obtain ⟨O, hO⟩ : ∃ O, twoF l 6 = O := ⟨_, rfl⟩
  obtain ⟨H, hH⟩ : ∃ H, headF l = H := ⟨_, rfl⟩
  have hdata : (parseP l).data = l.drop (headF l) := rfl
  rw [hdata]
  rw [hO] at hP bO a14 a13 aM
  rw [show twoF l (6 + 0) = O from hO] at hget6
  rw [hH] at hP hC hclone hsh f2 f3 f4 eH hdata ⊢
  obtain ⟨D1, h1⟩ : ∃ D, O / 2 ^ 14 % 2 = D := ⟨_, rfl⟩
  obtain ⟨D2, h2⟩ : ∃ D, O / 2 ^ 13 % 2 = D := ⟨_, rfl⟩
  obtain ⟨D3, h3⟩ : ∃ D, O % 2 ^ 13 = D := ⟨_, rfl⟩
  rw [h1, show ((2 ^ 14 : Nat) : Int) = 16384 from rfl] at a14
  rw [h2, show ((2 ^ 13 : Nat) : Int) = 8192 from rfl] at a13
  rw [h3, show ((2 ^ 13 - 1 : Nat) : Int) = 8191 from rfl] at aM
  have d1 : (decide (O / 16384 % 2 = 1)) = (!(((2 ^ 14 * D1 : Nat) : Int) == 0)) := by
    rw [show O / 16384 % 2 = D1 from h1]
    rcases (show D1 = 0 ∨ D1 = 1 by omega) with rfl | rfl <;> decide
  have d2 : (decide (O / 8192 % 2 = 1)) = (!(((2 ^ 13 * D2 : Nat) : Int) == 0)) := by
    rw [show O / 8192 % 2 = D2 from h2]
    rcases (show D2 = 0 ∨ D2 = 1 by omega) with rfl | rfl <;> decide
  have d3 : (O : Int) % 8192 * 8 = (D3 : Int) * 8 := by have h3' : O % 8192 = D3 := h3; omega
  have bD : (D3 : Int) ≤ 8191 := by omega
  obtain ⟨V1, hV1⟩ : ∃ V : Nat, 2 ^ 14 * D1 = V := ⟨_, rfl⟩
  obtain ⟨V2, hV2⟩ : ∃ V : Nat, 2 ^ 13 * D2 = V := ⟨_, rfl⟩
  rw [hV1] at a14 d1
  rw [hV2] at a13 d2
  obtain ⟨B1, g1⟩ : ∃ B, byF l 1 = B := ⟨_, rfl⟩
  obtain ⟨B8, g8⟩ : ∃ B, byF l 8 = B := ⟨_, rfl⟩
  obtain ⟨B9, g9⟩ : ∃ B, byF l 9 = B := ⟨_, rfl⟩
  obtain ⟨I, hI⟩ : ∃ I, twoF l 4 = I := ⟨_, rfl⟩
  rw [show twoF l (4 + 0) = I from hI] at hget4
  rw [g1, g8, g9] at hC
  rw [g1, hI, g8, g9] at hP
  rw [g1] at b1
  rw [g8] at b8
  rw [g9] at b9
  obtain ⟨SR, hSR⟩ : ∃ S, (l.drop 12).take 4 = S := ⟨_, rfl⟩
  obtain ⟨DS, hDS⟩ : ∃ S, (l.drop 16).take 4 = S := ⟨_, rfl⟩
  obtain ⟨OP, hOP⟩ : ∃ S, (l.drop 20).take (H - 20) = S := ⟨_, rfl⟩
  obtain ⟨DT, hDT⟩ : ∃ S, l.drop H = S := ⟨_, rfl⟩
  rw [hSR, hDS, hOP] at hC
  rw [hSR, hDS, hOP, hDT] at hP
  rw [hDT] at hclone ⊢
  rw [hP]
  have HP := Lib.hid (And.intro d1 (And.intro d2 d3))
  have HC := Lib.hid hC
  have EH := Lib.hid eH
  clear eH
  clear hC
  have q1 := i64_fit (B1 : Int) (by omega) (by omega)
  have q8 := i64_fit (B8 : Int) (by omega) (by omega)
  have q9 := i64_fit (B9 : Int) (by omega) (by omega)
  have qD := i64_fit ((D3 : Int) * 8) (by omega) (by omega)
  have i1 : (1 : Int) < (l.length : Int) := by omega
  have i8 : (8 : Int) < (l.length : Int) := by omega
  have i9 : (9 : Int) < (l.length : Int) := by omega
  have k4 : (4 : Int) ≤ (l.length : Int) := by omega
  have k6 : (6 : Int) ≤ (l.length : Int) := by omega
  have k16 : (16 : Int) ≤ (vc : Int) := by omega
  have k20 : (20 : Int) ≤ (vc : Int) := by omega
  have kH : (H : Int) ≤ (l.length : Int) := by omega
  have kH2 : (20 : Int) ≤ (H : Int) := by omega
  have kH3 : (H : Int) ≤ (vc : Int) := by omega
  clear hP hdata h1 h2 h3 d1 d2 d3 g1 g8 g9 hI hSR hDS hOP hDT hV1 hV2 hO hH
  have v4 : ¬ vc = 4 := by omega
  have v6 : ¬ vc = 6 := by omega
  have v12 : ¬ vc = 12 := by omega
  have v16 : ¬ vc = 16 := by omega
  have E20 := Lib.hid e20
  clear e20 s4 s6 s12 s16 s20 sH
  go_enter Tryd.func9, Tryd.ntmps9
  go_wp2_with fail
  refine hsh.mono ?_
  rintro e w1 (⟨-, rfl, hk1⟩ | ⟨h0, -⟩)
  case inr => exact absurd hE h0
  have hkA := hk0.trans hk1 (fun _ _ h => h)
  have hr1 := hr0.keeps hk1 (fun h => h)
  clear hsh hk1 hk0 hr0
  go_wp2_with fail
  refine (hget6 _ hkA).mono ?_
  rintro e w2 ⟨rfl, m6, hm6⟩
  have hkm : Keeps (fun _ => False) w1 w2 := hm6 ▸ (Keeps.refl _ w1).drewN m6
  have hkB := hkA.trans hkm (fun _ _ h => h)
  have hr2 := hr1.keeps hkm (fun h => h)
  clear hm6 hkm hkA hr1 hget6
  go_wp2_with fail
  refine region_T [39] (fun w' => w'.cell? ⟨b, off + 1, none⟩ = some (.int .u8 (B1 : Int)) ∧ w'.cell? ⟨b, off + 8, none⟩ = some (.int .u8 (B8 : Int)) ∧ w'.cell? ⟨b, off + 9, none⟩ = some (.int .u8 (B9 : Int)) ∧
      (convert 22 9 (.slice (some ⟨b, off + 12, none⟩) 4 (vc - 12))).run Tryd.prog w' = .ok (.string ⟨SR.toArray⟩) w' ∧ (convert 22 9 (.slice (some ⟨b, off + 16, none⟩) 4 (vc - 16))).run Tryd.prog w' = .ok (.string ⟨DS.toArray⟩) w' ∧
      (convert 22 9 (.slice (some ⟨b, o20, none⟩) (H - 20) (vc - 20))).run Tryd.prog w' = .ok (.string ⟨OP.toArray⟩) w') (by kernel_rfl) ?_
  have hC := HC.out _ hkB.drew
  have e20 := E20.out
  have eH := EH.out
  refine anyT_take0 (i := 0) (v := ?_) rfl (by kernel_rfl) (by kernel_rfl) (by kernel_rfl) (by kernel_rfl) (by kernel_rfl) (fun _ _ _ h => h) hC (.inl ⟨by rfl, fun _ _ => ?_⟩) ?_
  rotate_left 1
  · go_simp
    try with_reducible rfl
  simp only [Act.put, List.getElem_toArray, List.getElem_cons_succ, List.getElem_cons_zero, List.setIfInBounds_toArray, List.set_cons_zero, List.set_cons_succ]
  refine anyT_take0 (i := 1) (v := ?_) rfl (by kernel_rfl) (by kernel_rfl) (by kernel_rfl) (by kernel_rfl) (by kernel_rfl) (fun _ _ _ h => h) hC (.inl ⟨by rfl, fun _ _ => ?_⟩) ?_
  rotate_left 1
  · go_simp
    try with_reducible rfl
  simp only [Act.put, List.getElem_toArray, List.getElem_cons_succ, List.getElem_cons_zero, List.setIfInBounds_toArray, List.set_cons_zero, List.set_cons_succ]
  refine anyT_takeW (i := 2) (v := ?_) rfl (by kernel_rfl) (by kernel_rfl) (by kernel_rfl) (by kernel_rfl) (by kernel_rfl) (by kernel_rfl) (fun _ _ _ h => h) hC (.inl ⟨by rfl, fun w hCw => ?_⟩) ?_
  rotate_left 1
  · dsimp only at hCw
    go_simp
    try with_reducible rfl
  simp only [Act.put, List.getElem_toArray, List.getElem_cons_succ, List.getElem_cons_zero, List.setIfInBounds_toArray, List.set_cons_zero, List.set_cons_succ]
  refine anyT_take0 (i := 3) (v := ?_) rfl (by kernel_rfl) (by kernel_rfl) (by kernel_rfl) (by kernel_rfl) (by kernel_rfl) (fun _ _ _ h => h) hC (.inl ⟨by rfl, fun _ _ => ?_⟩) ?_
  rotate_left 1
  · go_simp
    try with_reducible rfl
  simp only [Act.put, List.getElem_toArray, List.getElem_cons_succ, List.getElem_cons_zero, List.setIfInBounds_toArray, List.set_cons_zero, List.set_cons_succ]
  refine anyT_take0 (i := 4) (v := ?_) rfl (by kernel_rfl) (by kernel_rfl) (by kernel_rfl) (by kernel_rfl) (by kernel_rfl) (fun _ _ _ h => h) hC (.inl ⟨by rfl, fun _ _ => ?_⟩) ?_
  rotate_left 1
  · go_simp
    try with_reducible rfl
  simp only [Act.put, List.getElem_toArray, List.getElem_cons_succ, List.getElem_cons_zero, List.setIfInBounds_toArray, List.set_cons_zero, List.set_cons_succ]
  refine anyT_take0 (i := 5) (v := ?_) rfl (by kernel_rfl) (by kernel_rfl) (by kernel_rfl) (by kernel_rfl) (by kernel_rfl) (fun _ _ _ h => h) hC (.inl ⟨by rfl, fun _ _ => ?_⟩) ?_
  rotate_left 1
  · go_simp
    try with_reducible rfl
  simp only [Act.put, List.getElem_toArray, List.getElem_cons_succ, List.getElem_cons_zero, List.setIfInBounds_toArray, List.set_cons_zero, List.set_cons_succ]
  refine anyT_take0 (i := 7) (v := ?_) rfl (by kernel_rfl) (by kernel_rfl) (by kernel_rfl) (by kernel_rfl) (by kernel_rfl) (fun _ _ _ h => h) hC (.inl ⟨by rfl, fun _ _ => ?_⟩) ?_
  rotate_left 1
  · go_simp
    try with_reducible rfl
  simp only [Act.put, List.getElem_toArray, List.getElem_cons_succ, List.getElem_cons_zero, List.setIfInBounds_toArray, List.set_cons_zero, List.set_cons_succ]
  refine anyT_take0 (i := 8) (v := ?_) rfl (by kernel_rfl) (by kernel_rfl) (by kernel_rfl) (by kernel_rfl) (by kernel_rfl) (fun _ _ _ h => h) hC (.inl ⟨by rfl, fun _ _ => ?_⟩) ?_
  rotate_left 1
  · go_simp
    try with_reducible rfl
  simp only [Act.put, List.getElem_toArray, List.getElem_cons_succ, List.getElem_cons_zero, List.setIfInBounds_toArray, List.set_cons_zero, List.set_cons_succ]
  refine anyT_takeW (i := 9) (v := ?_) rfl (by kernel_rfl) (by kernel_rfl) (by kernel_rfl) (by kernel_rfl) (by kernel_rfl) (by kernel_rfl) (fun _ _ _ h => h) hC (.inl ⟨by rfl, fun w hCw => ?_⟩) ?_
  rotate_left 1
  · dsimp only at hCw
    go_simp
    try with_reducible rfl
  simp only [Act.put, List.getElem_toArray, List.getElem_cons_succ, List.getElem_cons_zero, List.setIfInBounds_toArray, List.set_cons_zero, List.set_cons_succ]
  refine anyT_take0 (i := 10) (v := ?_) rfl (by kernel_rfl) (by kernel_rfl) (by kernel_rfl) (by kernel_rfl) (by kernel_rfl) (fun _ _ _ h => h) hC (.inl ⟨by rfl, fun _ _ => ?_⟩) ?_
  rotate_left 1
  · go_simp
    try with_reducible rfl
  simp only [Act.put, List.getElem_toArray, List.getElem_cons_succ, List.getElem_cons_zero, List.setIfInBounds_toArray, List.set_cons_zero, List.set_cons_succ]
  refine anyT_take0 (i := 11) (v := ?_) rfl (by kernel_rfl) (by kernel_rfl) (by kernel_rfl) (by kernel_rfl) (by kernel_rfl) (fun _ _ _ h => h) hC (.inl ⟨by rfl, fun _ _ => ?_⟩) ?_
  rotate_left 1
  · go_simp
    try with_reducible rfl
  simp only [Act.put, List.getElem_toArray, List.getElem_cons_succ, List.getElem_cons_zero, List.setIfInBounds_toArray, List.set_cons_zero, List.set_cons_succ]
  refine anyT_take0 (i := 12) (v := ?_) rfl (by kernel_rfl) (by kernel_rfl) (by kernel_rfl) (by kernel_rfl) (by kernel_rfl) (fun _ _ _ h => h) hC (.inl ⟨by rfl, fun _ _ => ?_⟩) ?_
  rotate_left 1
  · go_simp
    try with_reducible rfl
  simp only [Act.put, List.getElem_toArray, List.getElem_cons_succ, List.getElem_cons_zero, List.setIfInBounds_toArray, List.set_cons_zero, List.set_cons_succ]
  refine anyT_takeW (i := 13) (v := ?_) rfl (by kernel_rfl) (by kernel_rfl) (by kernel_rfl) (by kernel_rfl) (by kernel_rfl) (by kernel_rfl) (fun _ _ _ h => h) hC (.inl ⟨by rfl, fun w hCw => ?_⟩) ?_
  rotate_left 1
  · dsimp only at hCw
    go_simp
    try with_reducible rfl
  simp only [Act.put, List.getElem_toArray, List.getElem_cons_succ, List.getElem_cons_zero, List.setIfInBounds_toArray, List.set_cons_zero, List.set_cons_succ]
  refine anyT_take0 (i := 14) (v := ?_) rfl (by kernel_rfl) (by kernel_rfl) (by kernel_rfl) (by kernel_rfl) (by kernel_rfl) (fun _ _ _ h => h) hC (.inl ⟨by rfl, fun _ _ => ?_⟩) ?_
  rotate_left 1
  · go_simp
    try with_reducible rfl
  simp only [Act.put, List.getElem_toArray, List.getElem_cons_succ, List.getElem_cons_zero, List.setIfInBounds_toArray, List.set_cons_zero, List.set_cons_succ]
  refine anyT_take0 (i := 15) (v := ?_) rfl (by kernel_rfl) (by kernel_rfl) (by kernel_rfl) (by kernel_rfl) (by kernel_rfl) (fun _ _ _ h => h) hC (.inl ⟨by rfl, fun _ _ => ?_⟩) ?_
  rotate_left 1
  · go_simp
    try with_reducible rfl
  simp only [Act.put, List.getElem_toArray, List.getElem_cons_succ, List.getElem_cons_zero, List.setIfInBounds_toArray, List.set_cons_zero, List.set_cons_succ]
  refine anyT_take0 (i := 16) (v := ?_) rfl (by kernel_rfl) (by kernel_rfl) (by kernel_rfl) (by kernel_rfl) (by kernel_rfl) (fun _ _ _ h => h) hC (.inl ⟨by rfl, fun _ _ => ?_⟩) ?_
  rotate_left 1
  · go_simp
    try with_reducible rfl
  simp only [Act.put, List.getElem_toArray, List.getElem_cons_succ, List.getElem_cons_zero, List.setIfInBounds_toArray, List.set_cons_zero, List.set_cons_succ]
  refine anyT_take0 (i := 17) (v := ?_) rfl (by kernel_rfl) (by kernel_rfl) (by kernel_rfl) (by kernel_rfl) (by kernel_rfl) (fun _ _ _ h => h) hC (.inl ⟨by rfl, fun _ _ => ?_⟩) ?_
  rotate_left 1
  · go_simp
    try with_reducible rfl
  simp only [Act.put, List.getElem_toArray, List.getElem_cons_succ, List.getElem_cons_zero, List.setIfInBounds_toArray, List.set_cons_zero, List.set_cons_succ]
  refine anyT_take0 (i := 18) (v := ?_) rfl (by kernel_rfl) (by kernel_rfl) (by kernel_rfl) (by kernel_rfl) (by kernel_rfl) (fun _ _ _ h => h) hC (.inl ⟨by rfl, fun _ _ => ?_⟩) ?_
  rotate_left 1
  · go_simp
    try with_reducible rfl
  simp only [Act.put, List.getElem_toArray, List.getElem_cons_succ, List.getElem_cons_zero, List.setIfInBounds_toArray, List.set_cons_zero, List.set_cons_succ]
  refine anyT_take0 (i := 19) (v := ?_) rfl (by kernel_rfl) (by kernel_rfl) (by kernel_rfl) (by kernel_rfl) (by kernel_rfl) (fun _ _ _ h => h) hC (.inl ⟨by rfl, fun _ _ => ?_⟩) ?_
  rotate_left 1
  · go_simp
    try with_reducible rfl
  simp only [Act.put, List.getElem_toArray, List.getElem_cons_succ, List.getElem_cons_zero, List.setIfInBounds_toArray, List.set_cons_zero, List.set_cons_succ]
  refine anyT_take0 (i := 20) (v := ?_) rfl (by kernel_rfl) (by kernel_rfl) (by kernel_rfl) (by kernel_rfl) (by kernel_rfl) (fun _ _ _ h => h) hC (.inl ⟨by rfl, fun _ _ => ?_⟩) ?_
  rotate_left 1
  · go_simp
    try with_reducible rfl
  simp only [Act.put, List.getElem_toArray, List.getElem_cons_succ, List.getElem_cons_zero, List.setIfInBounds_toArray, List.set_cons_zero, List.set_cons_succ]
  refine anyT_take0 (i := 21) (v := ?_) rfl (by kernel_rfl) (by kernel_rfl) (by kernel_rfl) (by kernel_rfl) (by kernel_rfl) (fun _ _ _ h => h) hC (.inl ⟨by rfl, fun _ _ => ?_⟩) ?_
  rotate_left 1
  · go_simp
    try with_reducible rfl
  simp only [Act.put, List.getElem_toArray, List.getElem_cons_succ, List.getElem_cons_zero, List.setIfInBounds_toArray, List.set_cons_zero, List.set_cons_succ]
  refine anyT_take0 (i := 22) (v := ?_) rfl (by kernel_rfl) (by kernel_rfl) (by kernel_rfl) (by kernel_rfl) (by kernel_rfl) (fun _ _ _ h => h) hC (.inl ⟨by rfl, fun _ _ => ?_⟩) ?_
  rotate_left 1
  · go_simp
    try with_reducible rfl
  simp only [Act.put, List.getElem_toArray, List.getElem_cons_succ, List.getElem_cons_zero, List.setIfInBounds_toArray, List.set_cons_zero, List.set_cons_succ]
  refine anyT_take0 (i := 23) (v := ?_) rfl (by kernel_rfl) (by kernel_rfl) (by kernel_rfl) (by kernel_rfl) (by kernel_rfl) (fun _ _ _ h => h) hC (.inl ⟨by rfl, fun _ _ => ?_⟩) ?_
  rotate_left 1
  · go_simp
    try with_reducible rfl
  simp only [Act.put, List.getElem_toArray, List.getElem_cons_succ, List.getElem_cons_zero, List.setIfInBounds_toArray, List.set_cons_zero, List.set_cons_succ]
  refine anyT_take0 (i := 24) (v := ?_) rfl (by kernel_rfl) (by kernel_rfl) (by kernel_rfl) (by kernel_rfl) (by kernel_rfl) (fun _ _ _ h => h) hC (.inl ⟨by rfl, fun _ _ => ?_⟩) ?_
  rotate_left 1
  · go_simp
    try with_reducible rfl
  simp only [Act.put, List.getElem_toArray, List.getElem_cons_succ, List.getElem_cons_zero, List.setIfInBounds_toArray, List.set_cons_zero, List.set_cons_succ]
  refine anyT_take0 (i := 25) (v := ?_) rfl (by kernel_rfl) (by kernel_rfl) (by kernel_rfl) (by kernel_rfl) (by kernel_rfl) (fun _ _ _ h => h) hC (.inl ⟨by rfl, fun _ _ => ?_⟩) ?_
  rotate_left 1
  · go_simp
    try with_reducible rfl
  simp only [Act.put, List.getElem_toArray, List.getElem_cons_succ, List.getElem_cons_zero, List.setIfInBounds_toArray, List.set_cons_zero, List.set_cons_succ]
  refine anyT_takeW (i := 26) (v := ?_) rfl (by kernel_rfl) (by kernel_rfl) (by kernel_rfl) (by kernel_rfl) (by kernel_rfl) (by kernel_rfl) (fun _ _ _ h => h) hC (.inl ⟨by rfl, fun w hCw => ?_⟩) ?_
  rotate_left 1
  · dsimp only at hCw
    go_simp
    try with_reducible rfl
  simp only [Act.put, List.getElem_toArray, List.getElem_cons_succ, List.getElem_cons_zero, List.setIfInBounds_toArray, List.set_cons_zero, List.set_cons_succ]
  refine anyT_take0 (i := 27) (v := ?_) rfl (by kernel_rfl) (by kernel_rfl) (by kernel_rfl) (by kernel_rfl) (by kernel_rfl) (fun _ _ _ h => h) hC (.inl ⟨by rfl, fun _ _ => ?_⟩) ?_
  rotate_left 1
  · go_simp
    try with_reducible rfl
  simp only [Act.put, List.getElem_toArray, List.getElem_cons_succ, List.getElem_cons_zero, List.setIfInBounds_toArray, List.set_cons_zero, List.set_cons_succ]
  refine anyT_take0 (i := 28) (v := ?_) rfl (by kernel_rfl) (by kernel_rfl) (by kernel_rfl) (by kernel_rfl) (by kernel_rfl) (fun _ _ _ h => h) hC (.inl ⟨by rfl, fun _ _ => ?_⟩) ?_
  rotate_left 1
  · go_simp
    try with_reducible rfl
  simp only [Act.put, List.getElem_toArray, List.getElem_cons_succ, List.getElem_cons_zero, List.setIfInBounds_toArray, List.set_cons_zero, List.set_cons_succ]
  refine anyT_takeW (i := 29) (v := ?_) rfl (by kernel_rfl) (by kernel_rfl) (by kernel_rfl) (by kernel_rfl) (by kernel_rfl) (by kernel_rfl) (fun _ _ _ h => h) hC (.inl ⟨by rfl, fun w hCw => ?_⟩) ?_
  rotate_left 1
  · dsimp only at hCw
    go_simp
    try with_reducible rfl
  simp only [Act.put, List.getElem_toArray, List.getElem_cons_succ, List.getElem_cons_zero, List.setIfInBounds_toArray, List.set_cons_zero, List.set_cons_succ]
  refine anyT_take0 (i := 30) (v := ?_) rfl (by kernel_rfl) (by kernel_rfl) (by kernel_rfl) (by kernel_rfl) (by kernel_rfl) (fun _ _ _ h => h) hC (.inl ⟨by rfl, fun _ _ => ?_⟩) ?_
  rotate_left 1
  · go_simp
    try with_reducible rfl
  simp only [Act.put, List.getElem_toArray, List.getElem_cons_succ, List.getElem_cons_zero, List.setIfInBounds_toArray, List.set_cons_zero, List.set_cons_succ]
  refine anyT_take0 (i := 31) (v := ?_) rfl (by kernel_rfl) (by kernel_rfl) (by kernel_rfl) (by kernel_rfl) (by kernel_rfl) (fun _ _ _ h => h) hC (.inl ⟨by rfl, fun _ _ => ?_⟩) ?_
  rotate_left 1
  · go_simp
    try with_reducible rfl
  simp only [Act.put, List.getElem_toArray, List.getElem_cons_succ, List.getElem_cons_zero, List.setIfInBounds_toArray, List.set_cons_zero, List.set_cons_succ]
  refine anyT_take0 (i := 32) (v := ?_) rfl (by kernel_rfl) (by kernel_rfl) (by kernel_rfl) (by kernel_rfl) (by kernel_rfl) (fun _ _ _ h => h) hC (.inl ⟨by rfl, fun _ _ => ?_⟩) ?_
  rotate_left 1
  · go_simp
    try with_reducible rfl
  simp only [Act.put, List.getElem_toArray, List.getElem_cons_succ, List.getElem_cons_zero, List.setIfInBounds_toArray, List.set_cons_zero, List.set_cons_succ]
  refine anyT_takeW (i := 33) (v := ?_) rfl (by kernel_rfl) (by kernel_rfl) (by kernel_rfl) (by kernel_rfl) (by kernel_rfl) (by kernel_rfl) (fun _ _ _ h => h) hC (.inl ⟨by rfl, fun w hCw => ?_⟩) ?_
  rotate_left 1
  · dsimp only at hCw
    go_simp
    try with_reducible rfl
  simp only [Act.put, List.getElem_toArray, List.getElem_cons_succ, List.getElem_cons_zero, List.setIfInBounds_toArray, List.set_cons_zero, List.set_cons_succ]
  refine anyT_take0 (i := 34) (v := ?_) rfl (by kernel_rfl) (by kernel_rfl) (by kernel_rfl) (by kernel_rfl) (by kernel_rfl) (fun _ _ _ h => h) hC (.inl ⟨by rfl, fun _ _ => ?_⟩) ?_
  rotate_left 1
  · go_simp
    try with_reducible rfl
  simp only [Act.put, List.getElem_toArray, List.getElem_cons_succ, List.getElem_cons_zero, List.setIfInBounds_toArray, List.set_cons_zero, List.set_cons_succ]
  refine anyT_take0 (i := 35) (v := ?_) rfl (by kernel_rfl) (by kernel_rfl) (by kernel_rfl) (by kernel_rfl) (by kernel_rfl) (fun _ _ _ h => h) hC (.inl ⟨by rfl, fun _ _ => ?_⟩) ?_
  rotate_left 1
  · go_simp
    try with_reducible rfl
  simp only [Act.put, List.getElem_toArray, List.getElem_cons_succ, List.getElem_cons_zero, List.setIfInBounds_toArray, List.set_cons_zero, List.set_cons_succ]
  refine anyT_take0 (i := 36) (v := ?_) rfl (by kernel_rfl) (by kernel_rfl) (by kernel_rfl) (by kernel_rfl) (by kernel_rfl) (fun _ _ _ h => h) hC (.inl ⟨by rfl, fun _ _ => ?_⟩) ?_
  rotate_left 1
  · go_simp
    try with_reducible rfl
  simp only [Act.put, List.getElem_toArray, List.getElem_cons_succ, List.getElem_cons_zero, List.setIfInBounds_toArray, List.set_cons_zero, List.set_cons_succ]
  refine anyT_force (i := 6) rfl (by kernel_rfl) (by rfl) ?_
  go_simp
  refine (hget4 _ hkB.drew).mono ?_
  rintro e w3 ⟨rfl, m4, hm4⟩
  have hkm : Keeps (fun _ => False) w2 w3 := hm4 ▸ ((Keeps.refl _ w2).drew.drewN m4)
  have hkC := hkB.trans hkm (fun _ _ h => h)
  have hr3 := hr2.keeps hkm (fun h => h)
  have hC := HC.out _ hkC
  refine ⟨fun _ => hC, ?_⟩
  clear hm4 hkm hr2 hkB
  refine anyT_force (i := 37) rfl (by kernel_rfl) (by rfl) ?_
  go_simp
  refine (hclone _ hkC).mono ?_
  rintro e w4 ⟨dv, rfl, hd4, hk4⟩
  have hkD := hkC.trans hk4 (fun _ _ h => h)
  have hr4 := hr3.keeps hk4 (fun h => h)
  have hC := HC.out _ hkD
  refine ⟨fun _ => hC, ?_⟩
  have hdw : BAt w4 (fun b' => w.heap.size < b' ∧ b' < w4.heap.size) dv DT := hd4.bat.mono fun b' hb' => ⟨by have := (hd4.block b' hb').1; have := hr3.lt; omega, (hd4.block b' hb').2⟩
  obtain ⟨da, dc, rfl, -, -⟩ := hdw.slice
  refine anyT_take0 (i := 38) (v := ?_) rfl (by kernel_rfl) (by kernel_rfl) (by kernel_rfl) (by kernel_rfl) (by kernel_rfl) (fun _ _ _ h => h) hC (.inl ⟨by rfl, fun _ _ => ?_⟩) ?_
  rotate_left 1
  · go_simp
    try with_reducible rfl
  simp only [Act.put, List.getElem_toArray, List.getElem_cons_succ, List.getElem_cons_zero, List.setIfInBounds_toArray, List.set_cons_zero, List.set_cons_succ]
  refine anyT_tail (k := 39) (by rfl) (by kernel_rfl) (by simp) rfl rfl (by kernel_rfl) ?_
  obtain ⟨x1, x2, x3⟩ := HP.out
  have hx1 : decide (O / 16384 % 2 = 1) = ((V1 : Int) != 0) := x1
  have hx2 : decide (O / 8192 % 2 = 1) = ((V2 : Int) != 0) := x2
  have HX := Lib.hid (And.intro hx1 (And.intro hx2 x3))
  clear HP x1 x2 x3 hx1 hx2 hC hget4 hclone
  refine wpList_store_whole rfl 25 (.tmp 2) (.tmp 58) rfl w.heap.size (p4cells ⟨B1, I, B8, B9, (V1 : Int) != 0, (V2 : Int) != 0, (D3 : Int) * 8, SR, DS, OP, DT⟩ (.slice da DT.length dc)) rfl rfl 25 _ 11 hr4 rfl rfl (by kernel_rfl) (p4_one _ _ rfl) (fun w5 hr5 hk5 => ?_)
  go_wp2
  (try simp only [Exit.inBlock, Exit.then])
  refine ret_cell_tmp 2 3 25 rfl w.heap.size _ _ _ rfl hr5 Tryd.underlying25 rfl (by kernel_rfl) rfl ?_
  obtain ⟨y1, y2, y3⟩ := HX.out
  exact ⟨_, by rw [hE, y1, y2, y3]; rfl, (BAt.keeps hdw hk5 (fun b' hb' e => by omega)).mono (fun b' hb' => Nat.lt_of_lt_of_le hb'.2 hk5.size), hkD.own hk5 (Nat.le_refl _)⟩

/-- ip4.Parse: any bytes. -/
theorem parse_any (v : Value) (l : List UInt8) (w : World) (h : BRd w v l) (hg : ErrT w) (hl : l.length ≤ 100000) :
    Calls Tryd.prog 9 #[v] w (Parsed l w) := by
  by_cases hE : parseE l = 0
  · exact parse_ok v l w h hl hE
  · exact parse_bad v l w h hg hE
end Go.Proofs.YtjcbbmlloadagaaDoor

/-! redoubtref03.Parse. -/
namespace Go.Proofs.YtjcbbmlloadagaaDoor
set_option linter.unusedVariables false
set_option linter.unusedSimpArgs false
open Go.RowKit

def p4zc : Array Value := p4cells p4zero (.slice none 0 0)


set_option maxRecDepth 100000 in
set_option maxHeartbeats 4000000 in
theorem rparse_bad (v : Value) (l : List UInt8) (w : World) (h : BRd w v l) (hl : l.length ≤ 100000) (hE : parseE l ≠ 0) :
    Calls Tryd.prog 10 #[v] w (Parsed l w) := by
  unfold Parsed P4out
  rw [if_neg hE]
  have hk0 := (Keeps.refl (fun _ => False) w).alloc (.cells p4zc 25)
  have hr0 := RowAt.new w p4zc 25
  have hkq := hk0
  by_cases h20 : l.length < 20
  · obtain ⟨va, vc, rfl, hvc, hvm⟩ := h.slice
    have hEq : parseE l = 8 := by unfold parseE; rw [if_pos h20]
    rw [hEq]
    have h20' : (l.length : Int) < 20 := by omega
    clear hE hEq
    go_enter Tryd.func10, Tryd.ntmps10
    go_wp2_with (first | (go_at_call 26; refine (htwo _ (Keeps.refl _ _ |>.alloc _)).mono ?_; rintro e w2 ⟨rfl, m2, hm2⟩; have hkm : Keeps (fun _ => False) _ w2 := hm2 ▸ (Keeps.refl _ _).drewN m2; clear hm2) | (refine wpList_store_whole rfl 25 (.tmp 2) (.tmp 11) rfl w.heap.size p4zc rfl rfl 25 _ 11 hr0 rfl rfl (by kernel_rfl) (p4_one _ _ rfl) (fun w5 hr5 hk5 => ?_)))
    (try simp only [Exit.inBlock, Exit.then])
    refine ret_cell_tmp 2 3 25 rfl w.heap.size _ _ _ rfl hr5 Tryd.underlying25 rfl (by kernel_rfl) rfl ?_
    exact ⟨_, rfl, BAt.nil _ _, hkq.own hk5 (Nat.le_refl _)⟩
  · obtain ⟨b, off, vc, rfl, hvc, hvm⟩ := h.at0 (by omega)
    simp only [maxLen] at hvm
    have c0 : (w.alloc (.cells #[.int .i64 0, .int .i64 0, .int .i64 0, .int .i64 0, .bool false, .bool false, .int .i64 0, .string ⟨#[]⟩, .string ⟨#[]⟩, .string ⟨#[]⟩, .slice none 0 0] 25)).cell? ⟨b, off, none⟩ = some (.int .u8 (byF l 0 : Int)) := (h.keeps hk0).cellF 0 (by omega)
    have c6 : (w.alloc (.cells #[.int .i64 0, .int .i64 0, .int .i64 0, .int .i64 0, .bool false, .bool false, .int .i64 0, .string ⟨#[]⟩, .string ⟨#[]⟩, .string ⟨#[]⟩, .slice none 0 0] 25)).cell? ⟨b, off + 6, none⟩ = some (.int .u8 (byF l 6 : Int)) := (h.keeps hk0).cellF 6 (by omega)
    have htwo := two_any _ l 2 _ (h.keeps hk0) (by omega)
    have b0 := byF_lt l 0
    have b6 := byF_lt l 6
    have t2 := twoF_le l 2
    have hhd : headF l = 4 * (byF l 0 % 16) := rfl
    have hEq : parseE l = (if byF l 0 / 16 ≠ 4 ∨ headF l < 20 then 4 else if l.length < headF l ∨ l.length < twoF l 2 then 8
      else if twoF l 2 < headF l ∨ twoF l 2 < l.length ∨ 128 ≤ byF l 6 then 4 else if sum16 (l.take (headF l)) ≠ 65535 then 5 else 0) := by
      unfold parseE
      rw [if_neg h20]
    have hsub := fun (w' : World) (hk : Keeps (fun _ => False) w w') (hh : headF l ≤ l.length) => rsum_any _ (l.take (headF l)) w' (BRd.take (h.keeps hk) (headF l) hh rfl) (by rw [List.length_take]; omega)
    generalize sum16 (l.take (headF l)) = S at *
    generalize headF l = H at *
    generalize twoF l 2 = T at *
    generalize byF l 0 = B0 at *
    generalize byF l 6 = B6 at *
    obtain ⟨E, hEe⟩ : ∃ E, parseE l = E := ⟨_, rfl⟩
    rw [hEe] at hE hEq ⊢
    clear hEe
    obtain ⟨R, hR⟩ : ∃ R, B0 % 16 = R := ⟨_, rfl⟩
    rw [hR] at hhd
    have hrem : (B0 : Int) % 16 = (R : Int) := by omega
    have hmul : (4 : Int) * (R : Int) = (H : Int) := by omega
    have hRl : (R : Int) ≤ 15 := by omega
    have hHl : (H : Int) ≤ 60 := by omega
    have h20' : (20 : Int) ≤ (l.length : Int) := by omega
    have hL6 : (6 : Int) < (l.length : Int) := by omega
    have hL0 : (0 : Int) < (l.length : Int) := by omega
    have bB0 : (B0 : Int) ≤ 255 := by omega
    have bB6 : (B6 : Int) ≤ 255 := by omega
    have bT : (T : Int) ≤ 65535 := by omega
    have HH := Lib.hid hhd
    have HR := Lib.hid hR
    have HE := Lib.hid hEq
    clear hhd hR hEq b0 b6 t2 h20
    go_enter Tryd.func10, Tryd.ntmps10
    go_wp2_with fail
    refine htwo.mono ?_
    rintro e w2 ⟨rfl, m2, hm2⟩
    have hkm : Keeps (fun _ => False) (w.alloc (.cells p4zc 25)) w2 := hm2 ▸ (Keeps.refl _ _).drewN m2
    replace hkq := hk0.trans hkm (fun _ _ h => h)
    replace hr0 := hr0.keeps hkm (fun h => h)
    replace c0 := hkm.cell c0 (fun h => h)
    replace c6 := hkm.cell c6 (fun h => h)
    have hs := hsub w2 hkq
    clear htwo hm2 hkm hk0 hsub
    by_cases hv : (B0 : Int) / 16 = 4
    case neg =>
      obtain rfl : E = 4 := by rw [HE.out, if_pos (by omega)]
      clear HE
      go_wp2_with (first | (go_at_call 26; refine (htwo _ (Keeps.refl _ _ |>.alloc _)).mono ?_; rintro e w2 ⟨rfl, m2, hm2⟩; have hkm : Keeps (fun _ => False) _ w2 := hm2 ▸ (Keeps.refl _ _).drewN m2; clear hm2) | (refine wpList_store_whole rfl 25 (.tmp 2) (.tmp 29) rfl w.heap.size p4zc rfl rfl 25 _ 11 hr0 rfl rfl (by kernel_rfl) (p4_one _ _ rfl) (fun w5 hr5 hk5 => ?_)))
      (try simp only [Exit.inBlock, Exit.then])
      refine ret_cell_tmp 2 3 25 rfl w.heap.size _ _ _ rfl hr5 Tryd.underlying25 rfl (by kernel_rfl) rfl ?_
      exact ⟨_, rfl, BAt.nil _ _, hkq.own hk5 (Nat.le_refl _)⟩
    by_cases h1 : (H : Int) < 20
    case pos =>
      obtain rfl : E = 4 := by rw [HE.out, if_pos (by omega)]
      clear HE
      go_wp2_with (first | (go_at_call 26; refine (htwo _ (Keeps.refl _ _ |>.alloc _)).mono ?_; rintro e w2 ⟨rfl, m2, hm2⟩; have hkm : Keeps (fun _ => False) _ w2 := hm2 ▸ (Keeps.refl _ _).drewN m2; clear hm2) | (refine wpList_store_whole rfl 25 (.tmp 2) (.tmp 29) rfl w.heap.size p4zc rfl rfl 25 _ 11 hr0 rfl rfl (by kernel_rfl) (p4_one _ _ rfl) (fun w5 hr5 hk5 => ?_)))
      (try simp only [Exit.inBlock, Exit.then])
      refine ret_cell_tmp 2 3 25 rfl w.heap.size _ _ _ rfl hr5 Tryd.underlying25 rfl (by kernel_rfl) rfl ?_
      exact ⟨_, rfl, BAt.nil _ _, hkq.own hk5 (Nat.le_refl _)⟩
    have e1 : ¬ (B0 / 16 ≠ 4 ∨ H < 20) := by omega
    have h1' : (20 : Int) ≤ (H : Int) := by omega
    by_cases h3 : (l.length : Int) < (H : Int)
    case pos =>
      obtain rfl : E = 8 := by rw [HE.out, if_neg e1, if_pos (by omega)]
      clear HE e1
      go_wp2_with (first | (go_at_call 26; refine (htwo _ (Keeps.refl _ _ |>.alloc _)).mono ?_; rintro e w2 ⟨rfl, m2, hm2⟩; have hkm : Keeps (fun _ => False) _ w2 := hm2 ▸ (Keeps.refl _ _).drewN m2; clear hm2) | (refine wpList_store_whole rfl 25 (.tmp 2) (.tmp 40) rfl w.heap.size p4zc rfl rfl 25 _ 11 hr0 rfl rfl (by kernel_rfl) (p4_one _ _ rfl) (fun w5 hr5 hk5 => ?_)))
      (try simp only [Exit.inBlock, Exit.then])
      refine ret_cell_tmp 2 3 25 rfl w.heap.size _ _ _ rfl hr5 Tryd.underlying25 rfl (by kernel_rfl) rfl ?_
      exact ⟨_, rfl, BAt.nil _ _, hkq.own hk5 (Nat.le_refl _)⟩
    have h3' : (H : Int) ≤ (l.length : Int) := by omega
    by_cases h4 : (l.length : Int) < (T : Int)
    case pos =>
      obtain rfl : E = 8 := by rw [HE.out, if_neg e1, if_pos (by omega)]
      clear HE e1
      go_wp2_with (first | (go_at_call 26; refine (htwo _ (Keeps.refl _ _ |>.alloc _)).mono ?_; rintro e w2 ⟨rfl, m2, hm2⟩; have hkm : Keeps (fun _ => False) _ w2 := hm2 ▸ (Keeps.refl _ _).drewN m2; clear hm2) | (refine wpList_store_whole rfl 25 (.tmp 2) (.tmp 40) rfl w.heap.size p4zc rfl rfl 25 _ 11 hr0 rfl rfl (by kernel_rfl) (p4_one _ _ rfl) (fun w5 hr5 hk5 => ?_)))
      (try simp only [Exit.inBlock, Exit.then])
      refine ret_cell_tmp 2 3 25 rfl w.heap.size _ _ _ rfl hr5 Tryd.underlying25 rfl (by kernel_rfl) rfl ?_
      exact ⟨_, rfl, BAt.nil _ _, hkq.own hk5 (Nat.le_refl _)⟩
    have h4' : (T : Int) ≤ (l.length : Int) := by omega
    have e2 : ¬ (l.length < H ∨ l.length < T) := by omega
    by_cases h5 : (T : Int) < (H : Int)
    case pos =>
      obtain rfl : E = 4 := by rw [HE.out, if_neg e1, if_neg e2, if_pos (by omega)]
      clear HE e1 e2
      go_wp2_with (first | (go_at_call 26; refine (htwo _ (Keeps.refl _ _ |>.alloc _)).mono ?_; rintro e w2 ⟨rfl, m2, hm2⟩; have hkm : Keeps (fun _ => False) _ w2 := hm2 ▸ (Keeps.refl _ _).drewN m2; clear hm2) | (refine wpList_store_whole rfl 25 (.tmp 2) (.tmp 56) rfl w.heap.size p4zc rfl rfl 25 _ 11 hr0 rfl rfl (by kernel_rfl) (p4_one _ _ rfl) (fun w5 hr5 hk5 => ?_)))
      (try simp only [Exit.inBlock, Exit.then])
      refine ret_cell_tmp 2 3 25 rfl w.heap.size _ _ _ rfl hr5 Tryd.underlying25 rfl (by kernel_rfl) rfl ?_
      exact ⟨_, rfl, BAt.nil _ _, hkq.own hk5 (Nat.le_refl _)⟩
    have h5' : (H : Int) ≤ (T : Int) := by omega
    by_cases h6 : (T : Int) < (l.length : Int)
    case pos =>
      obtain rfl : E = 4 := by rw [HE.out, if_neg e1, if_neg e2, if_pos (by omega)]
      clear HE e1 e2
      go_wp2_with (first | (go_at_call 26; refine (htwo _ (Keeps.refl _ _ |>.alloc _)).mono ?_; rintro e w2 ⟨rfl, m2, hm2⟩; have hkm : Keeps (fun _ => False) _ w2 := hm2 ▸ (Keeps.refl _ _).drewN m2; clear hm2) | (refine wpList_store_whole rfl 25 (.tmp 2) (.tmp 56) rfl w.heap.size p4zc rfl rfl 25 _ 11 hr0 rfl rfl (by kernel_rfl) (p4_one _ _ rfl) (fun w5 hr5 hk5 => ?_)))
      (try simp only [Exit.inBlock, Exit.then])
      refine ret_cell_tmp 2 3 25 rfl w.heap.size _ _ _ rfl hr5 Tryd.underlying25 rfl (by kernel_rfl) rfl ?_
      exact ⟨_, rfl, BAt.nil _ _, hkq.own hk5 (Nat.le_refl _)⟩
    have h6' : (l.length : Int) ≤ (T : Int) := by omega
    by_cases h7 : (128 : Int) ≤ (B6 : Int)
    case pos =>
      obtain rfl : E = 4 := by rw [HE.out, if_neg e1, if_neg e2, if_pos (by omega)]
      clear HE e1 e2
      go_wp2_with (first | (go_at_call 26; refine (htwo _ (Keeps.refl _ _ |>.alloc _)).mono ?_; rintro e w2 ⟨rfl, m2, hm2⟩; have hkm : Keeps (fun _ => False) _ w2 := hm2 ▸ (Keeps.refl _ _).drewN m2; clear hm2) | (refine wpList_store_whole rfl 25 (.tmp 2) (.tmp 56) rfl w.heap.size p4zc rfl rfl 25 _ 11 hr0 rfl rfl (by kernel_rfl) (p4_one _ _ rfl) (fun w5 hr5 hk5 => ?_)))
      (try simp only [Exit.inBlock, Exit.then])
      refine ret_cell_tmp 2 3 25 rfl w.heap.size _ _ _ rfl hr5 Tryd.underlying25 rfl (by kernel_rfl) rfl ?_
      exact ⟨_, rfl, BAt.nil _ _, hkq.own hk5 (Nat.le_refl _)⟩
    have e3 : ¬ (T < H ∨ T < l.length ∨ 128 ≤ B6) := by omega
    have hHc : (H : Int) ≤ (vc : Int) := by omega
    have h7' : (B6 : Int) < 128 := by omega
    by_cases h8 : (S : Int) = 65535
    · exact absurd (by rw [HE.out, if_neg e1, if_neg e2, if_neg e3, if_neg (by omega)]) hE
    · obtain rfl : E = 5 := by rw [HE.out, if_neg e1, if_neg e2, if_neg e3, if_pos (by omega)]
      clear HE e1 e2 e3
      go_wp2_with fail
      refine (hs (by omega)).mono ?_
      rintro e w' ⟨rfl, rfl⟩
      go_wp2_with (first | (go_at_call 26; refine (htwo _ (Keeps.refl _ _ |>.alloc _)).mono ?_; rintro e w2 ⟨rfl, m2, hm2⟩; have hkm : Keeps (fun _ => False) _ w2 := hm2 ▸ (Keeps.refl _ _).drewN m2; clear hm2) | (refine wpList_store_whole rfl 25 (.tmp 2) (.tmp 62) rfl w.heap.size p4zc rfl rfl 25 _ 11 hr0 rfl rfl (by kernel_rfl) (p4_one _ _ rfl) (fun w5 hr5 hk5 => ?_)))
      (try simp only [Exit.inBlock, Exit.then])
      refine ret_cell_tmp 2 3 25 rfl w.heap.size _ _ _ rfl hr5 Tryd.underlying25 rfl (by kernel_rfl) rfl ?_
      exact ⟨_, rfl, BAt.nil _ _, hkq.own hk5 (Nat.le_refl _)⟩
end Go.Proofs.YtjcbbmlloadagaaDoor

/-! redoubtref03.Parse, of bytes that may be. -/
namespace Go.Proofs.YtjcbbmlloadagaaDoor
set_option linter.unusedVariables false
set_option linter.unusedSimpArgs false
open Go.RowKit


set_option maxRecDepth 100000 in
set_option maxHeartbeats 8000000 in
theorem rparse_ok (v : Value) (l : List UInt8) (w : World) (h : BRd w v l) (hl : l.length ≤ 100000) (hE : parseE l = 0) :
    Calls Tryd.prog 10 #[v] w (Parsed l w) := by
  unfold Parsed P4out
  rw [if_pos hE]
  obtain ⟨f1, f2, f3, f4, -, -, -, -⟩ := parse_facts l hE
  obtain ⟨b, off, vc, rfl, hvc, hvm⟩ := h.at0 (by omega)
  obtain ⟨-, -, -, -, f5, f6, f7, f8⟩ := parse_facts l hE
  simp only [maxLen] at hvm
  obtain ⟨o4, e4, s4⟩ := cutS h 4 (l.length - 4) (by omega) (by omega)
  rw [if_neg (by omega)] at e4
  obtain rfl : off + 4 = o4 := by simpa using e4
  obtain ⟨o6, e6, s6⟩ := cutS h 6 (l.length - 6) (by omega) (by omega)
  rw [if_neg (by omega)] at e6
  obtain rfl : off + 6 = o6 := by simpa using e6
  obtain ⟨o12, e12, s12⟩ := cutS h 12 4 (by omega) (by omega)
  rw [if_neg (by omega)] at e12
  obtain rfl : off + 12 = o12 := by simpa using e12
  obtain ⟨o16, e16, s16⟩ := cutS h 16 4 (by omega) (by omega)
  rw [if_neg (by omega)] at e16
  obtain rfl : off + 16 = o16 := by simpa using e16
  obtain ⟨o20, e20, s20⟩ := cutS h 20 (headF l - 20) (by omega) (by omega)
  obtain ⟨oH, eH, sH⟩ := cutS h (headF l) (l.length - headF l) (by omega) (by omega)
  rw [List.take_of_length_le (by rw [List.length_drop]; omega)] at s4 s6 sH
  have hget2 := fun w' (hk : Keeps (fun _ => False) w w') => two_any _ l 2 w' (h.keeps hk) (by omega)
  have hget4 := fun w' (hk : Keeps (fun _ => False) w w') => two_any _ l 4 w' (h.keeps hk) (by omega)
  have hget6 := fun w' (hk : Keeps (fun _ => False) w w') => two_any _ l 6 w' (h.keeps hk) (by omega)
  have hsum := fun w' (hk : Keeps (fun _ => False) w w') => rsum_any _ (l.take (headF l)) w' (BRd.take (h.keeps hk) (headF l) f3 rfl) (by rw [List.length_take]; omega)
  rw [f6] at hget2
  rw [f8] at hsum
  have hhd : headF l = 4 * (byF l 0 % 16) := rfl
  have hcell0 := fun w' (hk : Keeps (fun _ => False) w w') => (h.keeps hk).cellF 0 (by omega)
  have hcell6 := fun w' (hk : Keeps (fun _ => False) w w') => (h.keeps hk).cellF 6 (by omega)
  have hboth := fun w' (hk : Keeps (fun _ => False) w w') => BRd.keeps (h := sH w' hk) (Keeps.refl _ w')
  have hP : parseP l = ⟨byF l 1, twoF l 4, byF l 8, byF l 9, decide (twoF l 6 / 16384 % 2 = 1), decide (twoF l 6 / 8192 % 2 = 1), twoF l 6 % 8192 * 8, (l.drop 12).take 4, (l.drop 16).take 4, (l.drop 20).take (headF l - 20), l.drop (headF l)⟩ := rfl
  have hC : ∀ w', Keeps (fun _ => False) w w' → w'.cell? ⟨b, off + 1, none⟩ = some (.int .u8 (byF l 1 : Int)) ∧ w'.cell? ⟨b, off + 8, none⟩ = some (.int .u8 (byF l 8 : Int)) ∧ w'.cell? ⟨b, off + 9, none⟩ = some (.int .u8 (byF l 9 : Int)) ∧
      (convert 22 9 (.slice (some ⟨b, off + 12, none⟩) 4 (vc - 12))).run Tryd.prog w' = .ok (.string ⟨((l.drop 12).take 4).toArray⟩) w' ∧ (convert 22 9 (.slice (some ⟨b, off + 16, none⟩) 4 (vc - 16))).run Tryd.prog w' = .ok (.string ⟨((l.drop 16).take 4).toArray⟩) w' ∧
      (convert 22 9 (.slice (some ⟨b, o20, none⟩) (headF l - 20) (vc - 20))).run Tryd.prog w' = .ok (.string ⟨((l.drop 20).take (headF l - 20)).toArray⟩) w' := fun w' hk =>
    ⟨(h.keeps hk).cellF 1 (by omega), (h.keeps hk).cellF 8 (by omega), (h.keeps hk).cellF 9 (by omega), (s12 w' hk).text, (s16 w' hk).text, (s20 w' hk).text⟩
  have b1 := byF_lt l 1
  have b8 := byF_lt l 8
  have b9 := byF_lt l 9
  have bO := twoF_le l 6
  obtain ⟨O, hO⟩ : ∃ O, twoF l 6 = O := ⟨_, rfl⟩
  obtain ⟨H, hH⟩ : ∃ H, headF l = H := ⟨_, rfl⟩
  have hdata : (parseP l).data = l.drop (headF l) := rfl
  rw [hdata]
  rw [hO] at hP bO hget6
  rw [hH] at hP hC hsum hhd f2 f3 f4 eH hdata s20 sH hboth ⊢
  obtain ⟨B0, g0⟩ : ∃ B, byF l 0 = B := ⟨_, rfl⟩
  obtain ⟨B6, g6⟩ : ∃ B, byF l 6 = B := ⟨_, rfl⟩
  rw [g0] at hhd f5 hcell0
  rw [g6] at f7 hcell6
  obtain ⟨B1, g1⟩ : ∃ B, byF l 1 = B := ⟨_, rfl⟩
  obtain ⟨B8, g8⟩ : ∃ B, byF l 8 = B := ⟨_, rfl⟩
  obtain ⟨B9, g9⟩ : ∃ B, byF l 9 = B := ⟨_, rfl⟩
  obtain ⟨I, hI⟩ : ∃ I, twoF l 4 = I := ⟨_, rfl⟩
  rw [show twoF l (4 + 0) = I from hI] at hget4
  rw [g1, g8, g9] at hC
  rw [g1, hI, g8, g9] at hP
  rw [g1] at b1
  rw [g8] at b8
  rw [g9] at b9
  obtain ⟨SR, hSR⟩ : ∃ S, (l.drop 12).take 4 = S := ⟨_, rfl⟩
  obtain ⟨DS, hDS⟩ : ∃ S, (l.drop 16).take 4 = S := ⟨_, rfl⟩
  obtain ⟨OP, hOP⟩ : ∃ S, (l.drop 20).take (H - 20) = S := ⟨_, rfl⟩
  obtain ⟨DT, hDT⟩ : ∃ S, l.drop H = S := ⟨_, rfl⟩
  rw [hSR, hDS, hOP] at hC
  rw [hSR, hDS, hOP, hDT] at hP
  rw [hDT] at hboth sH ⊢
  rw [hP]
  have HC := Lib.hid hC
  have EH := Lib.hid eH
  clear eH
  clear hC
  have q1 := i64_fit (B1 : Int) (by omega) (by omega)
  have q8 := i64_fit (B8 : Int) (by omega) (by omega)
  have q9 := i64_fit (B9 : Int) (by omega) (by omega)
  have qI := i64_fit (I : Int) (by omega) (by have := twoF_le l 4; omega)
  have i1 : (1 : Int) < (l.length : Int) := by omega
  have i8 : (8 : Int) < (l.length : Int) := by omega
  have i9 : (9 : Int) < (l.length : Int) := by omega
  have k4 : (4 : Int) ≤ (l.length : Int) := by omega
  have k6 : (6 : Int) ≤ (l.length : Int) := by omega
  have k16 : (16 : Int) ≤ (vc : Int) := by omega
  have k20 : (20 : Int) ≤ (vc : Int) := by omega
  have kH : (H : Int) ≤ (l.length : Int) := by omega
  have kH2 : (20 : Int) ≤ (H : Int) := by omega
  have kH3 : (H : Int) ≤ (vc : Int) := by omega
  have hk0 := (Keeps.refl (fun _ => False) w).alloc (.cells #[.int .i64 0, .int .i64 0, .int .i64 0, .int .i64 0, .bool false, .bool false, .int .i64 0, .string ⟨#[]⟩, .string ⟨#[]⟩, .string ⟨#[]⟩, .slice none 0 0] 25)
  have hr0 : RowAt (w.alloc (.cells #[.int .i64 0, .int .i64 0, .int .i64 0, .int .i64 0, .bool false, .bool false, .int .i64 0, .string ⟨#[]⟩, .string ⟨#[]⟩, .string ⟨#[]⟩, .slice none 0 0] 25)) w.heap.size p4zc 25 := RowAt.new w p4zc 25
  have c0 : (w.alloc (.cells #[.int .i64 0, .int .i64 0, .int .i64 0, .int .i64 0, .bool false, .bool false, .int .i64 0, .string ⟨#[]⟩, .string ⟨#[]⟩, .string ⟨#[]⟩, .slice none 0 0] 25)).cell? ⟨b, off, none⟩ = some (.int .u8 (B0 : Int)) := hcell0 _ hk0
  obtain ⟨R, hR⟩ : ∃ R, B0 % 16 = R := ⟨_, rfl⟩
  rw [hR] at hhd
  have hrem : (B0 : Int) % 16 = (R : Int) := by omega
  have hmul : (4 : Int) * (R : Int) = (H : Int) := by omega
  have hv : (B0 : Int) / 16 = 4 := by omega
  have hRl : (R : Int) ≤ 15 := by omega
  have bB0 : (B0 : Int) ≤ 255 := by have := byF_lt l 0; omega
  have h7' : (B6 : Int) < 128 := by omega
  have i6 : (6 : Int) < (l.length : Int) := by omega
  have i0 : (0 : Int) < (l.length : Int) := by omega
  have i20 : (20 : Int) ≤ (l.length : Int) := by omega
  have hHl : (H : Int) ≤ 60 := by omega
  have iL : (l.length : Int) ≤ 100000 := by omega
  have v12 : ¬ vc = 12 := by omega
  have v16 : ¬ vc = 16 := by omega
  have E20 := Lib.hid e20
  have hDl : DT.length ≤ 100000 := by rw [← hDT, List.length_drop]; omega
  rw [hSR] at s12
  rw [hDS] at s16
  rw [hOP] at s20
  have S12 := Lib.hid s12
  have S16 := Lib.hid s16
  have S20 := Lib.hid s20
  have SH := Lib.hid sH
  clear e4 e6 e12 e16 e20 s4 s6 s12 s16 s20 sH hboth hP hdata g0 g6 g1 g8 g9 hI hSR hDS hOP hDT hO hH f6 f8 f5 f7 hhd hR
  go_enter Tryd.func10, Tryd.ntmps10
  go_wp2_with fail
  refine (hget2 _ hk0).mono ?_
  rintro e w2 ⟨rfl, m2, hm2⟩
  have hkm : Keeps (fun _ => False) (w.alloc (.cells #[.int .i64 0, .int .i64 0, .int .i64 0, .int .i64 0, .bool false, .bool false, .int .i64 0, .string ⟨#[]⟩, .string ⟨#[]⟩, .string ⟨#[]⟩, .slice none 0 0] 25)) w2 := hm2 ▸ (Keeps.refl _ _).drewN m2
  have hkA := hk0.trans hkm (fun _ _ h => h)
  have hr2 := hr0.keeps hkm (fun h => h)
  replace c0 := hkm.cell c0 (fun h => h)
  have c6 := hcell6 _ hkA
  clear hm2 hkm hk0 hr0 hget2
  go_wp2_with fail
  refine (hsum _ hkA).mono ?_
  rintro e w' ⟨rfl, rfl⟩
  go_wp2_with fail
  refine (hget6 _ hkA).mono ?_
  rintro e w3 ⟨rfl, m3, hm3⟩
  have hkm : Keeps (fun _ => False) w2 w3 := hm3 ▸ (Keeps.refl _ _).drewN m3
  have hkB := hkA.trans hkm (fun _ _ h => h)
  have hr3 := hr2.keeps hkm (fun h => h)
  clear hm3 hkm hkA hr2 hget6 c0 c6 hsum
  have bO' : (O : Int) ≤ 65535 := by omega
  have b1' : (B1 : Int) ≤ 255 := by omega
  have b8' : (B8 : Int) ≤ 255 := by omega
  have b9' : (B9 : Int) ≤ 255 := by omega
  have z1 : ((O : Int).tmod 8192) = (O : Int) % 8192 := Int.tmod_eq_emod_of_nonneg (by omega)
  have z2 := i64_fit ((O : Int) % 8192 * 8) (by omega) (by omega)
  have z3 := i64_fit ((O : Int) / 16384) (by omega) (by omega)
  have z4 := i64_fit ((O : Int) / 8192) (by omega) (by omega)
  have z5 : ((O : Int) / 16384).tmod 2 = (O : Int) / 16384 % 2 := Int.tmod_eq_emod_of_nonneg (by omega)
  have z6 : ((O : Int) / 8192).tmod 2 = (O : Int) / 8192 % 2 := Int.tmod_eq_emod_of_nonneg (by omega)
  go_wp2_with fail
  refine region_T [27] (fun w' => w'.cell? ⟨b, off + 1, none⟩ = some (.int .u8 (B1 : Int)) ∧ w'.cell? ⟨b, off + 8, none⟩ = some (.int .u8 (B8 : Int)) ∧ w'.cell? ⟨b, off + 9, none⟩ = some (.int .u8 (B9 : Int))) (by kernel_rfl) ?_
  have hC3 : ∀ w', Keeps (fun _ => False) w w' → w'.cell? ⟨b, off + 1, none⟩ = some (.int .u8 (B1 : Int)) ∧ w'.cell? ⟨b, off + 8, none⟩ = some (.int .u8 (B8 : Int)) ∧ w'.cell? ⟨b, off + 9, none⟩ = some (.int .u8 (B9 : Int)) := fun w' hk => ⟨(HC.out w' hk).1, (HC.out w' hk).2.1, (HC.out w' hk).2.2.1⟩
  have hC := hC3 _ hkB.drew
  refine anyT_take0 (i := 0) (v := ?_) rfl (by kernel_rfl) (by kernel_rfl) (by kernel_rfl) (by kernel_rfl) (by kernel_rfl) (fun _ _ _ h => h) hC (.inl ⟨by rfl, fun _ _ => ?_⟩) ?_
  rotate_left 1
  · go_simp
    try with_reducible rfl
  simp only [Act.put, List.getElem_toArray, List.getElem_cons_succ, List.getElem_cons_zero, List.setIfInBounds_toArray, List.set_cons_zero, List.set_cons_succ]
  refine anyT_take0 (i := 1) (v := ?_) rfl (by kernel_rfl) (by kernel_rfl) (by kernel_rfl) (by kernel_rfl) (by kernel_rfl) (fun _ _ _ h => h) hC (.inl ⟨by rfl, fun _ _ => ?_⟩) ?_
  rotate_left 1
  · go_simp
    try with_reducible rfl
  simp only [Act.put, List.getElem_toArray, List.getElem_cons_succ, List.getElem_cons_zero, List.setIfInBounds_toArray, List.set_cons_zero, List.set_cons_succ]
  refine anyT_takeW (i := 2) (v := ?_) rfl (by kernel_rfl) (by kernel_rfl) (by kernel_rfl) (by kernel_rfl) (by kernel_rfl) (by kernel_rfl) (fun _ _ _ h => h) hC (.inl ⟨by rfl, fun w hCw => ?_⟩) ?_
  rotate_left 1
  · dsimp only at hCw
    go_simp
    try with_reducible rfl
  simp only [Act.put, List.getElem_toArray, List.getElem_cons_succ, List.getElem_cons_zero, List.setIfInBounds_toArray, List.set_cons_zero, List.set_cons_succ]
  refine anyT_take0 (i := 3) (v := ?_) rfl (by kernel_rfl) (by kernel_rfl) (by kernel_rfl) (by kernel_rfl) (by kernel_rfl) (fun _ _ _ h => h) hC (.inl ⟨by rfl, fun _ _ => ?_⟩) ?_
  rotate_left 1
  · go_simp
    try with_reducible rfl
  simp only [Act.put, List.getElem_toArray, List.getElem_cons_succ, List.getElem_cons_zero, List.setIfInBounds_toArray, List.set_cons_zero, List.set_cons_succ]
  refine anyT_take0 (i := 4) (v := ?_) rfl (by kernel_rfl) (by kernel_rfl) (by kernel_rfl) (by kernel_rfl) (by kernel_rfl) (fun _ _ _ h => h) hC (.inl ⟨by rfl, fun _ _ => ?_⟩) ?_
  rotate_left 1
  · go_simp
    try with_reducible rfl
  simp only [Act.put, List.getElem_toArray, List.getElem_cons_succ, List.getElem_cons_zero, List.setIfInBounds_toArray, List.set_cons_zero, List.set_cons_succ]
  refine anyT_take0 (i := 6) (v := ?_) rfl (by kernel_rfl) (by kernel_rfl) (by kernel_rfl) (by kernel_rfl) (by kernel_rfl) (fun _ _ _ h => h) hC (.inl ⟨by rfl, fun _ _ => ?_⟩) ?_
  rotate_left 1
  · go_simp
    try with_reducible rfl
  simp only [Act.put, List.getElem_toArray, List.getElem_cons_succ, List.getElem_cons_zero, List.setIfInBounds_toArray, List.set_cons_zero, List.set_cons_succ]
  refine anyT_take0 (i := 7) (v := ?_) rfl (by kernel_rfl) (by kernel_rfl) (by kernel_rfl) (by kernel_rfl) (by kernel_rfl) (fun _ _ _ h => h) hC (.inl ⟨by rfl, fun _ _ => ?_⟩) ?_
  rotate_left 1
  · go_simp
    try with_reducible rfl
  simp only [Act.put, List.getElem_toArray, List.getElem_cons_succ, List.getElem_cons_zero, List.setIfInBounds_toArray, List.set_cons_zero, List.set_cons_succ]
  refine anyT_takeW (i := 8) (v := ?_) rfl (by kernel_rfl) (by kernel_rfl) (by kernel_rfl) (by kernel_rfl) (by kernel_rfl) (by kernel_rfl) (fun _ _ _ h => h) hC (.inl ⟨by rfl, fun w hCw => ?_⟩) ?_
  rotate_left 1
  · dsimp only at hCw
    go_simp
    try with_reducible rfl
  simp only [Act.put, List.getElem_toArray, List.getElem_cons_succ, List.getElem_cons_zero, List.setIfInBounds_toArray, List.set_cons_zero, List.set_cons_succ]
  refine anyT_take0 (i := 9) (v := ?_) rfl (by kernel_rfl) (by kernel_rfl) (by kernel_rfl) (by kernel_rfl) (by kernel_rfl) (fun _ _ _ h => h) hC (.inl ⟨by rfl, fun _ _ => ?_⟩) ?_
  rotate_left 1
  · go_simp
    try with_reducible rfl
  simp only [Act.put, List.getElem_toArray, List.getElem_cons_succ, List.getElem_cons_zero, List.setIfInBounds_toArray, List.set_cons_zero, List.set_cons_succ]
  refine anyT_take0 (i := 10) (v := ?_) rfl (by kernel_rfl) (by kernel_rfl) (by kernel_rfl) (by kernel_rfl) (by kernel_rfl) (fun _ _ _ h => h) hC (.inl ⟨by rfl, fun _ _ => ?_⟩) ?_
  rotate_left 1
  · go_simp
    try with_reducible rfl
  simp only [Act.put, List.getElem_toArray, List.getElem_cons_succ, List.getElem_cons_zero, List.setIfInBounds_toArray, List.set_cons_zero, List.set_cons_succ]
  refine anyT_take0 (i := 11) (v := ?_) rfl (by kernel_rfl) (by kernel_rfl) (by kernel_rfl) (by kernel_rfl) (by kernel_rfl) (fun _ _ _ h => h) hC (.inl ⟨by rfl, fun _ _ => ?_⟩) ?_
  rotate_left 1
  · go_simp
    try with_reducible rfl
  simp only [Act.put, List.getElem_toArray, List.getElem_cons_succ, List.getElem_cons_zero, List.setIfInBounds_toArray, List.set_cons_zero, List.set_cons_succ]
  refine anyT_takeW (i := 12) (v := ?_) rfl (by kernel_rfl) (by kernel_rfl) (by kernel_rfl) (by kernel_rfl) (by kernel_rfl) (by kernel_rfl) (fun _ _ _ h => h) hC (.inl ⟨by rfl, fun w hCw => ?_⟩) ?_
  rotate_left 1
  · dsimp only at hCw
    go_simp
    try with_reducible rfl
  simp only [Act.put, List.getElem_toArray, List.getElem_cons_succ, List.getElem_cons_zero, List.setIfInBounds_toArray, List.set_cons_zero, List.set_cons_succ]
  refine anyT_take0 (i := 13) (v := ?_) rfl (by kernel_rfl) (by kernel_rfl) (by kernel_rfl) (by kernel_rfl) (by kernel_rfl) (fun _ _ _ h => h) hC (.inl ⟨by rfl, fun _ _ => ?_⟩) ?_
  rotate_left 1
  · go_simp
    try with_reducible rfl
  simp only [Act.put, List.getElem_toArray, List.getElem_cons_succ, List.getElem_cons_zero, List.setIfInBounds_toArray, List.set_cons_zero, List.set_cons_succ]
  refine anyT_take0 (i := 14) (v := ?_) rfl (by kernel_rfl) (by kernel_rfl) (by kernel_rfl) (by kernel_rfl) (by kernel_rfl) (fun _ _ _ h => h) hC (.inl ⟨by rfl, fun _ _ => ?_⟩) ?_
  rotate_left 1
  · go_simp
    try with_reducible rfl
  simp only [Act.put, List.getElem_toArray, List.getElem_cons_succ, List.getElem_cons_zero, List.setIfInBounds_toArray, List.set_cons_zero, List.set_cons_succ]
  refine anyT_take0 (i := 15) (v := ?_) rfl (by kernel_rfl) (by kernel_rfl) (by kernel_rfl) (by kernel_rfl) (by kernel_rfl) (fun _ _ _ h => h) hC (.inl ⟨by rfl, fun _ _ => ?_⟩) ?_
  rotate_left 1
  · go_simp
    try with_reducible rfl
  simp only [Act.put, List.getElem_toArray, List.getElem_cons_succ, List.getElem_cons_zero, List.setIfInBounds_toArray, List.set_cons_zero, List.set_cons_succ]
  refine anyT_take0 (i := 16) (v := ?_) rfl (by kernel_rfl) (by kernel_rfl) (by kernel_rfl) (by kernel_rfl) (by kernel_rfl) (fun _ _ _ h => h) hC (.inl ⟨by rfl, fun _ _ => ?_⟩) ?_
  rotate_left 1
  · go_simp
    try with_reducible rfl
  simp only [Act.put, List.getElem_toArray, List.getElem_cons_succ, List.getElem_cons_zero, List.setIfInBounds_toArray, List.set_cons_zero, List.set_cons_succ]
  refine anyT_take0 (i := 17) (v := ?_) rfl (by kernel_rfl) (by kernel_rfl) (by kernel_rfl) (by kernel_rfl) (by kernel_rfl) (fun _ _ _ h => h) hC (.inl ⟨by rfl, fun _ _ => ?_⟩) ?_
  rotate_left 1
  · go_simp
    try with_reducible rfl
  simp only [Act.put, List.getElem_toArray, List.getElem_cons_succ, List.getElem_cons_zero, List.setIfInBounds_toArray, List.set_cons_zero, List.set_cons_succ]
  refine anyT_take0 (i := 18) (v := ?_) rfl (by kernel_rfl) (by kernel_rfl) (by kernel_rfl) (by kernel_rfl) (by kernel_rfl) (fun _ _ _ h => h) hC (.inl ⟨by rfl, fun _ _ => ?_⟩) ?_
  rotate_left 1
  · go_simp
    try with_reducible rfl
  simp only [Act.put, List.getElem_toArray, List.getElem_cons_succ, List.getElem_cons_zero, List.setIfInBounds_toArray, List.set_cons_zero, List.set_cons_succ]
  refine anyT_take0 (i := 19) (v := ?_) rfl (by kernel_rfl) (by kernel_rfl) (by kernel_rfl) (by kernel_rfl) (by kernel_rfl) (fun _ _ _ h => h) hC (.inl ⟨by rfl, fun _ _ => ?_⟩) ?_
  rotate_left 1
  · go_simp
    try with_reducible rfl
  simp only [Act.put, List.getElem_toArray, List.getElem_cons_succ, List.getElem_cons_zero, List.setIfInBounds_toArray, List.set_cons_zero, List.set_cons_succ]
  refine anyT_take0 (i := 20) (v := ?_) rfl (by kernel_rfl) (by kernel_rfl) (by kernel_rfl) (by kernel_rfl) (by kernel_rfl) (fun _ _ _ h => h) hC (.inl ⟨by rfl, fun _ _ => ?_⟩) ?_
  rotate_left 1
  · go_simp
    try with_reducible rfl
  simp only [Act.put, List.getElem_toArray, List.getElem_cons_succ, List.getElem_cons_zero, List.setIfInBounds_toArray, List.set_cons_zero, List.set_cons_succ]
  refine anyT_take0 (i := 21) (v := ?_) rfl (by kernel_rfl) (by kernel_rfl) (by kernel_rfl) (by kernel_rfl) (by kernel_rfl) (fun _ _ _ h => h) hC (.inl ⟨by rfl, fun _ _ => ?_⟩) ?_
  rotate_left 1
  · go_simp
    try with_reducible rfl
  simp only [Act.put, List.getElem_toArray, List.getElem_cons_succ, List.getElem_cons_zero, List.setIfInBounds_toArray, List.set_cons_zero, List.set_cons_succ]
  refine anyT_take0 (i := 22) (v := ?_) rfl (by kernel_rfl) (by kernel_rfl) (by kernel_rfl) (by kernel_rfl) (by kernel_rfl) (fun _ _ _ h => h) hC (.inl ⟨by rfl, fun _ _ => ?_⟩) ?_
  rotate_left 1
  · go_simp
    try with_reducible rfl
  simp only [Act.put, List.getElem_toArray, List.getElem_cons_succ, List.getElem_cons_zero, List.setIfInBounds_toArray, List.set_cons_zero, List.set_cons_succ]
  refine anyT_take0 (i := 23) (v := ?_) rfl (by kernel_rfl) (by kernel_rfl) (by kernel_rfl) (by kernel_rfl) (by kernel_rfl) (fun _ _ _ h => h) hC (.inl ⟨by rfl, fun _ _ => ?_⟩) ?_
  rotate_left 1
  · go_simp
    try with_reducible rfl
  simp only [Act.put, List.getElem_toArray, List.getElem_cons_succ, List.getElem_cons_zero, List.setIfInBounds_toArray, List.set_cons_zero, List.set_cons_succ]
  refine anyT_take0 (i := 24) (v := ?_) rfl (by kernel_rfl) (by kernel_rfl) (by kernel_rfl) (by kernel_rfl) (by kernel_rfl) (fun _ _ _ h => h) hC (.inl ⟨by rfl, fun _ _ => ?_⟩) ?_
  rotate_left 1
  · go_simp
    try with_reducible rfl
  simp only [Act.put, List.getElem_toArray, List.getElem_cons_succ, List.getElem_cons_zero, List.setIfInBounds_toArray, List.set_cons_zero, List.set_cons_succ]
  generalize hwd : World.drew w3 = wd
  have hkB2 : Keeps (fun _ => False) w wd := hwd ▸ hkB.drew
  have hrd : RowAt wd w.heap.size p4zc 25 := hwd ▸ hr3.drew
  clear hwd hC
  have hC := hC3 _ hkB2
  refine anyT_fork (i := 5) (j := 26) rfl rfl (by kernel_rfl) (by rfl) (by rfl) ?_ ?_
  · go_simp
    refine (hget4 _ hkB2).mono ?_
    rintro e w4 ⟨rfl, m4, hm4⟩
    have hkm : Keeps (fun _ => False) wd w4 := hm4 ▸ ((Keeps.refl _ wd).drewN m4)
    have hkC := hkB2.trans hkm (fun _ _ h => h)
    have hr4 := hrd.keeps hkm (fun h => h)
    clear hm4
    have hC := hC3 _ hkC
    refine ⟨fun _ => hC, ?_⟩
    refine anyT_take0 (i := 25) (v := ?_) rfl (by kernel_rfl) (by kernel_rfl) (by kernel_rfl) (by kernel_rfl) (by kernel_rfl) (fun _ _ _ h => h) hC (.inl ⟨by rfl, fun _ _ => ?_⟩) ?_
    rotate_left 1
    · go_simp
      try with_reducible rfl
    simp only [Act.put, List.getElem_toArray, List.getElem_cons_succ, List.getElem_cons_zero, List.setIfInBounds_toArray, List.set_cons_zero, List.set_cons_succ]
    refine anyT_force (i := 26) rfl (by kernel_rfl) (by rfl) ?_
    go_simp
    refine ⟨fun _ => hC3 _ (hkC.alloc _), ?_⟩
    refine anyT_tail (k := 27) (by rfl) (by kernel_rfl) (by simp) rfl rfl (by kernel_rfl) ?_
    have hp := RowAt.new w4 p4zc 25
    have hkE := hkC.alloc (.cells p4zc 25)
    have hrE := hr4.alloc (.cells p4zc 25)
    have hGG : w.heap.size < w4.heap.size := hr4.lt
    refine wpList_store_whole rfl 25 (.tmp 7) (.tmp 90) rfl w4.heap.size (p4cells ⟨B1, I, B8, B9, (O : Int) / 16384 % 2 == 1, (O : Int) / 8192 % 2 == 1, (O : Int) % 8192 * 8, [], [], [], []⟩ (.slice none 0 0)) rfl rfl 25 p4zc 11 hp rfl rfl (by kernel_rfl) (p4_one _ _ rfl) (fun W hrow hkS => ?_)
    clear hC hC3
    have hkW := hkE.own hkS (by omega)
    have hres := hrE.keeps hkS (by omega)
    have k1 : Keeps (fun _ => False) w (W.setCell ⟨w4.heap.size, 7, none⟩ (.string ⟨SR.toArray⟩)) := hkW.setCell _ _ (.inr (by show w.heap.size ≤ w4.heap.size; omega))
    have k2 : Keeps (fun _ => False) w ((W.setCell ⟨w4.heap.size, 7, none⟩ (.string ⟨SR.toArray⟩)).setCell ⟨w4.heap.size, 8, none⟩ (.string ⟨DS.toArray⟩)) := k1.setCell _ _ (.inr (by show w.heap.size ≤ w4.heap.size; omega))
    have k3 : Keeps (fun _ => False) w (((W.setCell ⟨w4.heap.size, 7, none⟩ (.string ⟨SR.toArray⟩)).setCell ⟨w4.heap.size, 8, none⟩ (.string ⟨DS.toArray⟩)).setCell ⟨w4.heap.size, 9, none⟩ (.string ⟨OP.toArray⟩)) := k2.setCell _ _ (.inr (by show w.heap.size ≤ w4.heap.size; omega))
    have x1 := (S12.out _ hkW).text
    have x2 := (S16.out _ k1).text
    have x3 := (S20.out _ k2).text
    have w1 := hrow.set 7 (.string ⟨SR.toArray⟩)
    have w2' := w1.set 8 (.string ⟨DS.toArray⟩)
    have w3' := w2'.set 9 (.string ⟨OP.toArray⟩)
    have y1 : W.cell? ⟨w4.heap.size, 7, none⟩ = some (.string ⟨#[]⟩) := hrow.cell 7
    have y2 : (W.setCell ⟨w4.heap.size, 7, none⟩ (.string ⟨SR.toArray⟩)).cell? ⟨w4.heap.size, 8, none⟩ = some (.string ⟨#[]⟩) := w1.cell 8
    have y3 : ((W.setCell ⟨w4.heap.size, 7, none⟩ (.string ⟨SR.toArray⟩)).setCell ⟨w4.heap.size, 8, none⟩ (.string ⟨DS.toArray⟩)).cell? ⟨w4.heap.size, 9, none⟩ = some (.string ⟨#[]⟩) := w2'.cell 9
    have n1 := hrow.frozen 7
    have n2 := w1.frozen 8
    have n3 := w2'.frozen 9
    have hr3' := ((hres.setOther ⟨w4.heap.size, 7, none⟩ (.string ⟨SR.toArray⟩) (by show w.heap.size ≠ w4.heap.size; omega)).setOther ⟨w4.heap.size, 8, none⟩ (.string ⟨DS.toArray⟩) (by show w.heap.size ≠ w4.heap.size; omega)).setOther ⟨w4.heap.size, 9, none⟩ (.string ⟨OP.toArray⟩) (by show w.heap.size ≠ w4.heap.size; omega)
    have e20 := E20.out
    have eH := EH.out
    clear z1 z2 z3 z4 z5 z6 q1 q8 q9 qI
    go_wp2_with fail
    obtain ⟨W3, hW3⟩ : ∃ W3, (((W.setCell ⟨w4.heap.size, 7, none⟩ (.string ⟨SR.toArray⟩)).setCell ⟨w4.heap.size, 8, none⟩ (.string ⟨DS.toArray⟩)).setCell ⟨w4.heap.size, 9, none⟩ (.string ⟨OP.toArray⟩)) = W3 := ⟨_, rfl⟩
    have hsz : W.heap.size = W3.heap.size := by rw [← hW3]; simp [World.setCell]
    rw [hW3] at k3 w3' hr3' ⊢
    rw [hsz]
    clear hW3 k1 k2 x1 x2 x3 w1 w2' y1 y2 y3 n1 n2 n3 e20 eH hrow hres hkS hkE hrE hp hsz
    refine (both_any _ [DT] _ (BBAt.one (T := 22) (SH.out _ k3)).low (by simp; omega)).mono ?_
    rintro e w6 ⟨dv, rfl, hd6, hk6⟩
    rw [show [DT].flatten = DT by simp] at hd6
    have hk6' : Keeps (fun _ => False) W3 w6 := ((Keeps.refl _ W3).alloc _).trans hk6 (fun _ _ h => h)
    have w6' := w3'.keeps hk6' (fun h => h)
    have hr6 := hr3'.keeps hk6' (fun h => h)
    have hk7 := k3.trans hk6' (fun _ _ h => h)
    have hlow : ∀ b', dv.ownBlock = some b' → w4.heap.size < b' ∧ b' < w6.heap.size := fun b' hb' => ⟨by have := (hd6.block b' hb').1; rw [show (W3.alloc (Obj.cells #[.slice (some ⟨b, oH, none⟩) (l.length - H) (vc - H)] 22)).heap.size = W3.heap.size + 1 by show (W3.heap.push _).size = _; simp] at this; have := w3'.lt; omega, (hd6.block b' hb').2⟩
    have hdw := hd6.bat.mono hlow
    obtain ⟨da, dc, rfl, -, -⟩ := hdw.slice
    have y4 : w6.cell? ⟨w4.heap.size, 10, none⟩ = some (.slice none 0 0) := w6'.cell 10
    have n4 := w6'.frozen 10
    have w7' : RowAt (w6.setCell ⟨w4.heap.size, 10, none⟩ (.slice da DT.length dc)) w4.heap.size (p4cells ⟨B1, I, B8, B9, (O : Int) / 16384 % 2 == 1, (O : Int) / 8192 % 2 == 1, (O : Int) % 8192 * 8, SR, DS, OP, DT⟩ (.slice da DT.length dc)) 25 := (w6'.set 10 (.slice da DT.length dc)).eq rfl
    have hr7 := hr6.setOther ⟨w4.heap.size, 10, none⟩ (.slice da DT.length dc) (by show w.heap.size ≠ w4.heap.size; omega)
    have hk8 := hk7.setCell ⟨w4.heap.size, 10, none⟩ (.slice da DT.length dc) (.inr (by show w.heap.size ≤ w4.heap.size; omega))
    have hdx := (BAt.keeps hdw (Keeps.setCell (S := (· = w4.heap.size)) (Keeps.refl _ w6) ⟨w4.heap.size, 10, none⟩ (.slice da DT.length dc) (.inl rfl)) (fun b' hb' e => by omega))
    clear hd6 hk6 hk6' hlow w3' hr3' k3
    go_wp2_with (first | (refine wpList_load_row rfl 25 (.tmp 7) rfl w4.heap.size rfl 25 _ (0, 0) _ w7' Tryd.underlying25 rfl (by kernel_rfl) ?_) | (refine wpList_store_whole rfl 25 (.tmp 2) (.tmp 110) rfl w.heap.size (p4cells ⟨B1, I, B8, B9, (O : Int) / 16384 % 2 == 1, (O : Int) / 8192 % 2 == 1, (O : Int) % 8192 * 8, SR, DS, OP, DT⟩ (.slice da DT.length dc)) rfl rfl 25 p4zc 11 hr7 rfl rfl (by kernel_rfl) (p4_one _ _ rfl) (fun w9 hr9 hk9 => ?_)))
    (try simp only [Exit.inBlock, Exit.then])
    refine ret_cell_tmp 2 3 25 rfl w.heap.size _ _ _ rfl hr9 Tryd.underlying25 rfl (by kernel_rfl) rfl ?_
    have d1 : decide (O / 16384 % 2 = 1) = ((O : Int) / 16384 % 2 == 1) := by rw [Bool.eq_iff_iff]; simp; omega
    have d2 : decide (O / 8192 % 2 = 1) = ((O : Int) / 8192 % 2 == 1) := by rw [Bool.eq_iff_iff]; simp; omega
    exact ⟨_, by rw [hE, d1, d2]; rfl, (BAt.keeps hdx hk9 (fun b' hb' e => by omega)).mono (fun b' hb' => Nat.lt_of_lt_of_le (by simpa [World.setCell] using hb'.2) hk9.size), hk8.own hk9 (Nat.le_refl _)⟩
  · go_simp
    refine ⟨fun _ => hC3 _ (hkB2.alloc _), ?_⟩
    refine anyT_force (i := 5) rfl (by kernel_rfl) (by rfl) ?_
    go_simp
    refine (hget4 _ (hkB2.alloc _)).mono ?_
    rintro e w4 ⟨rfl, m4, hm4⟩
    have hkm : Keeps (fun _ => False) (wd.alloc (.cells p4zc 25)) w4 := hm4 ▸ (Keeps.refl _ _).drewN m4
    have hkC := (hkB2.alloc _).trans hkm (fun _ _ h => h)
    have hrE := (hrd.alloc _).keeps hkm (fun h => h)
    have hp0 : RowAt (wd.alloc (.cells p4zc 25)) wd.heap.size p4zc 25 := RowAt.new wd p4zc 25
    have hp := hp0.keeps hkm (fun h => h)
    clear hm4
    have hkE := hkC
    have hGG : w.heap.size < wd.heap.size := hrd.lt
    have hC := hC3 _ hkC
    refine ⟨fun _ => hC, ?_⟩
    refine anyT_take0 (i := 25) (v := ?_) rfl (by kernel_rfl) (by kernel_rfl) (by kernel_rfl) (by kernel_rfl) (by kernel_rfl) (fun _ _ _ h => h) hC (.inl ⟨by rfl, fun _ _ => ?_⟩) ?_
    rotate_left 1
    · go_simp
      try with_reducible rfl
    simp only [Act.put, List.getElem_toArray, List.getElem_cons_succ, List.getElem_cons_zero, List.setIfInBounds_toArray, List.set_cons_zero, List.set_cons_succ]
    refine anyT_tail (k := 27) (by rfl) (by kernel_rfl) (by simp) rfl rfl (by kernel_rfl) ?_
    refine wpList_store_whole rfl 25 (.tmp 7) (.tmp 90) rfl wd.heap.size (p4cells ⟨B1, I, B8, B9, (O : Int) / 16384 % 2 == 1, (O : Int) / 8192 % 2 == 1, (O : Int) % 8192 * 8, [], [], [], []⟩ (.slice none 0 0)) rfl rfl 25 p4zc 11 hp rfl rfl (by kernel_rfl) (p4_one _ _ rfl) (fun W hrow hkS => ?_)
    clear hC hC3
    have hkW := hkE.own hkS (by omega)
    have hres := hrE.keeps hkS (by omega)
    have k1 : Keeps (fun _ => False) w (W.setCell ⟨wd.heap.size, 7, none⟩ (.string ⟨SR.toArray⟩)) := hkW.setCell _ _ (.inr (by show w.heap.size ≤ wd.heap.size; omega))
    have k2 : Keeps (fun _ => False) w ((W.setCell ⟨wd.heap.size, 7, none⟩ (.string ⟨SR.toArray⟩)).setCell ⟨wd.heap.size, 8, none⟩ (.string ⟨DS.toArray⟩)) := k1.setCell _ _ (.inr (by show w.heap.size ≤ wd.heap.size; omega))
    have k3 : Keeps (fun _ => False) w (((W.setCell ⟨wd.heap.size, 7, none⟩ (.string ⟨SR.toArray⟩)).setCell ⟨wd.heap.size, 8, none⟩ (.string ⟨DS.toArray⟩)).setCell ⟨wd.heap.size, 9, none⟩ (.string ⟨OP.toArray⟩)) := k2.setCell _ _ (.inr (by show w.heap.size ≤ wd.heap.size; omega))
    have x1 := (S12.out _ hkW).text
    have x2 := (S16.out _ k1).text
    have x3 := (S20.out _ k2).text
    have w1 := hrow.set 7 (.string ⟨SR.toArray⟩)
    have w2' := w1.set 8 (.string ⟨DS.toArray⟩)
    have w3' := w2'.set 9 (.string ⟨OP.toArray⟩)
    have y1 : W.cell? ⟨wd.heap.size, 7, none⟩ = some (.string ⟨#[]⟩) := hrow.cell 7
    have y2 : (W.setCell ⟨wd.heap.size, 7, none⟩ (.string ⟨SR.toArray⟩)).cell? ⟨wd.heap.size, 8, none⟩ = some (.string ⟨#[]⟩) := w1.cell 8
    have y3 : ((W.setCell ⟨wd.heap.size, 7, none⟩ (.string ⟨SR.toArray⟩)).setCell ⟨wd.heap.size, 8, none⟩ (.string ⟨DS.toArray⟩)).cell? ⟨wd.heap.size, 9, none⟩ = some (.string ⟨#[]⟩) := w2'.cell 9
    have n1 := hrow.frozen 7
    have n2 := w1.frozen 8
    have n3 := w2'.frozen 9
    have hr3' := ((hres.setOther ⟨wd.heap.size, 7, none⟩ (.string ⟨SR.toArray⟩) (by show w.heap.size ≠ wd.heap.size; omega)).setOther ⟨wd.heap.size, 8, none⟩ (.string ⟨DS.toArray⟩) (by show w.heap.size ≠ wd.heap.size; omega)).setOther ⟨wd.heap.size, 9, none⟩ (.string ⟨OP.toArray⟩) (by show w.heap.size ≠ wd.heap.size; omega)
    have e20 := E20.out
    have eH := EH.out
    clear z1 z2 z3 z4 z5 z6 q1 q8 q9 qI
    go_wp2_with fail
    obtain ⟨W3, hW3⟩ : ∃ W3, (((W.setCell ⟨wd.heap.size, 7, none⟩ (.string ⟨SR.toArray⟩)).setCell ⟨wd.heap.size, 8, none⟩ (.string ⟨DS.toArray⟩)).setCell ⟨wd.heap.size, 9, none⟩ (.string ⟨OP.toArray⟩)) = W3 := ⟨_, rfl⟩
    have hsz : W.heap.size = W3.heap.size := by rw [← hW3]; simp [World.setCell]
    rw [hW3] at k3 w3' hr3' ⊢
    rw [hsz]
    clear hW3 k1 k2 x1 x2 x3 w1 w2' y1 y2 y3 n1 n2 n3 e20 eH hrow hres hkS hkE hrE hp hsz
    refine (both_any _ [DT] _ (BBAt.one (T := 22) (SH.out _ k3)).low (by simp; omega)).mono ?_
    rintro e w6 ⟨dv, rfl, hd6, hk6⟩
    rw [show [DT].flatten = DT by simp] at hd6
    have hk6' : Keeps (fun _ => False) W3 w6 := ((Keeps.refl _ W3).alloc _).trans hk6 (fun _ _ h => h)
    have w6' := w3'.keeps hk6' (fun h => h)
    have hr6 := hr3'.keeps hk6' (fun h => h)
    have hk7 := k3.trans hk6' (fun _ _ h => h)
    have hlow : ∀ b', dv.ownBlock = some b' → wd.heap.size < b' ∧ b' < w6.heap.size := fun b' hb' => ⟨by have := (hd6.block b' hb').1; rw [show (W3.alloc (Obj.cells #[.slice (some ⟨b, oH, none⟩) (l.length - H) (vc - H)] 22)).heap.size = W3.heap.size + 1 by show (W3.heap.push _).size = _; simp] at this; have := w3'.lt; omega, (hd6.block b' hb').2⟩
    have hdw := hd6.bat.mono hlow
    obtain ⟨da, dc, rfl, -, -⟩ := hdw.slice
    have y4 : w6.cell? ⟨wd.heap.size, 10, none⟩ = some (.slice none 0 0) := w6'.cell 10
    have n4 := w6'.frozen 10
    have w7' : RowAt (w6.setCell ⟨wd.heap.size, 10, none⟩ (.slice da DT.length dc)) wd.heap.size (p4cells ⟨B1, I, B8, B9, (O : Int) / 16384 % 2 == 1, (O : Int) / 8192 % 2 == 1, (O : Int) % 8192 * 8, SR, DS, OP, DT⟩ (.slice da DT.length dc)) 25 := (w6'.set 10 (.slice da DT.length dc)).eq rfl
    have hr7 := hr6.setOther ⟨wd.heap.size, 10, none⟩ (.slice da DT.length dc) (by show w.heap.size ≠ wd.heap.size; omega)
    have hk8 := hk7.setCell ⟨wd.heap.size, 10, none⟩ (.slice da DT.length dc) (.inr (by show w.heap.size ≤ wd.heap.size; omega))
    have hdx := (BAt.keeps hdw (Keeps.setCell (S := (· = wd.heap.size)) (Keeps.refl _ w6) ⟨wd.heap.size, 10, none⟩ (.slice da DT.length dc) (.inl rfl)) (fun b' hb' e => by omega))
    clear hd6 hk6 hk6' hlow w3' hr3' k3
    go_wp2_with (first | (refine wpList_load_row rfl 25 (.tmp 7) rfl wd.heap.size rfl 25 _ (0, 0) _ w7' Tryd.underlying25 rfl (by kernel_rfl) ?_) | (refine wpList_store_whole rfl 25 (.tmp 2) (.tmp 110) rfl w.heap.size (p4cells ⟨B1, I, B8, B9, (O : Int) / 16384 % 2 == 1, (O : Int) / 8192 % 2 == 1, (O : Int) % 8192 * 8, SR, DS, OP, DT⟩ (.slice da DT.length dc)) rfl rfl 25 p4zc 11 hr7 rfl rfl (by kernel_rfl) (p4_one _ _ rfl) (fun w9 hr9 hk9 => ?_)))
    (try simp only [Exit.inBlock, Exit.then])
    refine ret_cell_tmp 2 3 25 rfl w.heap.size _ _ _ rfl hr9 Tryd.underlying25 rfl (by kernel_rfl) rfl ?_
    have d1 : decide (O / 16384 % 2 = 1) = ((O : Int) / 16384 % 2 == 1) := by rw [Bool.eq_iff_iff]; simp; omega
    have d2 : decide (O / 8192 % 2 = 1) = ((O : Int) / 8192 % 2 == 1) := by rw [Bool.eq_iff_iff]; simp; omega
    exact ⟨_, by rw [hE, d1, d2]; rfl, (BAt.keeps hdx hk9 (fun b' hb' e => by omega)).mono (fun b' hb' => Nat.lt_of_lt_of_le (by simpa [World.setCell] using hb'.2) hk9.size), hk8.own hk9 (Nat.le_refl _)⟩

/-- redoubtref03.Parse: any bytes. -/
theorem rparse_any (v : Value) (l : List UInt8) (w : World) (h : BRd w v l) (hl : l.length ≤ 100000) :
    Calls Tryd.prog 10 #[v] w (Parsed l w) := by
  by_cases hE : parseE l = 0
  · exact rparse_ok v l w h hl hE
  · exact rparse_bad v l w h hl hE
end Go.Proofs.YtjcbbmlloadagaaDoor

/-! redoubtref03.Same, of packets that are the same. -/
namespace Go.Proofs.YtjcbbmlloadagaaDoor
set_option linter.unusedVariables false
set_option linter.unusedSimpArgs false
open Go.RowKit

set_option maxRecDepth 100000 in
set_option maxHeartbeats 4000000 in
theorem same4_any (p : P4) (x y : Value) (w : World) (hx : BRd w x p.data) (hy : BRd w y p.data) :
    Calls Tryd.prog 14 #[.agg (p4cells p x), .agg (p4cells p y)] w fun e w' => e = .returned (.bool true) ∧ Keeps (fun _ => False) w w' := by
  obtain ⟨tos, id, ttl, proto, df, mf, off, src, dst, opt, data⟩ := p
  simp only at hx hy
  obtain ⟨xa, xc, rfl, -, -⟩ := hx.slice
  obtain ⟨ya, yc, rfl, -, -⟩ := hy.slice
  unfold p4cells txt
  simp only
  obtain ⟨X, hX⟩ : ∃ X, (#[.int .i64 tos, .int .i64 id, .int .i64 ttl, .int .i64 proto, .bool df, .bool mf, .int .i64 off, .string ⟨src.toArray⟩, .string ⟨dst.toArray⟩, .string ⟨opt.toArray⟩, .slice xa data.length xc] : Array Value) = X := ⟨_, rfl⟩
  obtain ⟨Y, hY⟩ : ∃ Y, (#[.int .i64 tos, .int .i64 id, .int .i64 ttl, .int .i64 proto, .bool df, .bool mf, .int .i64 off, .string ⟨src.toArray⟩, .string ⟨dst.toArray⟩, .string ⟨opt.toArray⟩, .slice ya data.length yc] : Array Value) = Y := ⟨_, rfl⟩
  have k2 := ((Keeps.refl (fun _ => False) w).alloc (.cells #[.int .i64 tos, .int .i64 id, .int .i64 ttl, .int .i64 proto, .bool df, .bool mf, .int .i64 off, .string ⟨src.toArray⟩, .string ⟨dst.toArray⟩, .string ⟨opt.toArray⟩, .slice xa data.length xc] 25)).alloc (.cells #[.int .i64 tos, .int .i64 id, .int .i64 ttl, .int .i64 proto, .bool df, .bool mf, .int .i64 off, .string ⟨src.toArray⟩, .string ⟨dst.toArray⟩, .string ⟨opt.toArray⟩, .slice ya data.length yc] 25)
  have t1 := (hx.keeps k2).text
  have t2 := (hy.keeps k2).text
  clear hX hY
  go_enter Tryd.func14, Tryd.ntmps14
  go_wp2
  go_ret
  exact ⟨rfl, k2⟩
end Go.Proofs.YtjcbbmlloadagaaDoor
