/- digest.Of's inner function: bytes are eaten, block by block. -/
import Derived.Test.YtkcnllbfinjaiaaDoorAdd
import Derived.Test.YtkcnllbfinjaiaaDoorBytes2
namespace Go.Proofs.YtkcnllbfinjaiaaDoor
open Go.RowKit

/-- n blocks of bytes into a state. -/
def absorbN : Nat → S8 → List UInt8 → S8
  | 0, s, _ => s
  | n + 1, s, bs => absorbN n (addS s (bs.take 64)) (bs.drop 64)
/-- All whole blocks; what is left. -/
def absorb (s : S8) (bs : List UInt8) : S8 × List UInt8 := (absorbN (bs.length / 64) s bs, bs.drop (64 * (bs.length / 64)))
theorem absorb_done (s : S8) (bs : List UInt8) (h : bs.length < 64) : absorb s bs = (s, bs) := by
  unfold absorb
  rw [Nat.div_eq_of_lt h]
  rfl
theorem absorb_step (s : S8) (bs : List UInt8) (h : 64 ≤ bs.length) : absorb s bs = absorb (addS s (bs.take 64)) (bs.drop 64) := by
  unfold absorb
  have e : bs.length / 64 = (bs.drop 64).length / 64 + 1 := by rw [List.length_drop]; omega
  rw [e, absorbN, List.drop_drop, Nat.mul_add, Nat.add_comm]
theorem absorb_append (n : Nat) : ∀ (s : S8) (a b : List UInt8), a.length ≤ n → absorb (absorb s a).1 ((absorb s a).2 ++ b) = absorb s (a ++ b) := by
  induction n using Nat.strongRecOn with
  | _ n ih =>
    intro s a b hn
    by_cases h : a.length < 64
    · rw [absorb_done s a h]
    · rw [absorb_step s a (by omega), absorb_step s (a ++ b) (by rw [List.length_append]; omega), List.take_append_of_le_length (by omega), List.drop_append_of_le_length (by omega)]
      exact ih (n - 64) (by omega) _ _ _ (by rw [List.length_drop]; omega)
theorem absorb_left (s : S8) (a : List UInt8) : (absorb s a).2.length < 64 := by
  unfold absorb
  rw [List.length_drop]
  omega

/-- How many elements the slice in the first cell of a block has. -/
def slen (w : World) (R : Nat) : Nat := match w.cell? ⟨R, 0, none⟩ with
  | some (.slice _ n _) => n
  | _ => 0
theorem slen_row {w : World} {R T n c : Nat} {a : Option Addr} (h : RowAt w R #[.slice a n c] T) : slen w R = n := by
  unfold slen; rw [h.one]

set_option maxRecDepth 100000 in
set_option maxHeartbeats 2000000 in
theorem eat_any (s : S8) (rest l : List UInt8) (rv v : Value) (w : World) (p : Nat → Prop) (B R S : Nat) (h : BAt w p v l) (hR : RowAt w R #[rv] 22) (hS : RowAt w S (srow s) 42)
    (ho : BOwn w B rv rest) (hB : B ≤ w.heap.size) (hmax : rest.length + l.length ≤ 140737488355328) (hT : Table w) (hSR : S ≠ R) (h0R : 0 ≠ R) (h0S : 0 ≠ S) (h0B : 0 < B) :
    Calls Tryd.prog 19 #[v, .pointer (some ⟨R, 0, none⟩), .pointer (some ⟨S, 0, none⟩)] w fun e w' => (∃ x, e = .returned x) ∧
      ∃ rv', RowAt w' R #[rv'] 22 ∧ BOwn w' B rv' (absorb s (rest ++ l)).2 ∧ RowAt w' S (srow (absorb s (rest ++ l)).1) 42 ∧ Table w' ∧ Keeps (fun b => b = R ∨ b = S ∨ rv.ownBlock = some b) w w' ∧
        (rv'.ownBlock = rv.ownBlock ∨ ∀ b, rv'.ownBlock = some b → w.heap.size ≤ b) := by
  obtain ⟨rv1, w1, hrun, ho1, hk1, hp1⟩ := run_append_bytes (ty := 22) ho h hmax hB
  obtain ⟨bs, hbs⟩ : ∃ bs, rest ++ l = bs := ⟨_, rfl⟩
  have hbl : bs.length ≤ 140737488355328 := by rw [← hbs, List.length_append]; exact hmax
  rw [hbs] at ho1 ⊢
  clear hbs hmax h
  obtain ⟨a1, cap1, rfl, hcap1, hmx1⟩ := ho1.slice
  have aR := ho.apart hR (by decide)
  have aS := ho.apart hS (by decide)
  have hR1 := hR.keeps hk1 aR
  have hS1 := hS.keeps hk1 aS
  have a1R := ho1.apart hR1 (by decide)
  have a1S := ho1.apart hS1 (by decide)
  have HR := Lib.hid hrun
  have c0 := hR.one
  have c1 := hR1.one
  have f1 := hR1.frozen 0
  have hT1 : Table w1 := fun k hk => hk1.cell (hT k hk) (fun e => by have := (ho.block 0 e).1; omega)
  simp only [maxLen] at hmx1
  go_enter Tryd.func19, Tryd.ntmps19
  clear hrun
  go_wp2_with (at_builtin; refine Lib.wpList_append_run _ rfl _ _ _ _ rfl _ _ rfl rfl _ _ HR.out ?_)
  go_loopw [9] (fun _ wr => ∃ (s' : S8) (b' : List UInt8) (a' : Option Addr) (c' : Nat), absorb s' b' = absorb s bs ∧ b'.length ≤ bs.length ∧ RowAt wr R #[.slice a' b'.length c'] 22 ∧ BOwn wr B (.slice a' b'.length c') b' ∧ RowAt wr S (srow s') 42 ∧ Table wr ∧
    Keeps (fun b => b = R ∨ b = S ∨ rv.ownBlock = some b) w wr ∧ ((Value.slice a' b'.length c').ownBlock = rv.ownBlock ∨ ∀ b, (Value.slice a' b'.length c').ownBlock = some b → w.heap.size ≤ b)) (fun _ wr => slen wr R)
  case atStart =>
    refine ⟨s, bs, a1, cap1, rfl, Nat.le_refl _, hR1.set 0 _, ho1.keeps (Keeps.setCell (S := (· = R)) (Keeps.refl _ _) _ _ (.inl rfl)) (fun b hb e => a1R (e ▸ hb)), hS1.setOther _ _ hSR, ?_, ?_, ?_⟩
    · exact fun k hk => (Keeps.setCell (S := (· = R)) (Keeps.refl _ w1) _ _ (.inl rfl)).cell (hT1 k hk) h0R
    · exact (hk1.mono (fun _ _ h => .inr (.inr h))).setCell _ _ (.inl (.inl rfl))
    · exact hp1.imp id (fun ⟨b, e, hb⟩ b' e' => by rw [e] at e'; cases e'; exact hb)
  case round =>
    obtain ⟨s', b', a', c', he, hle, hR, ho', hS, hT, hkw, hpl⟩ := hrel
    have cR := hR.one
    have fR := hR.frozen 0
    by_cases hlt : 64 ≤ b'.length
    · obtain ⟨g, off, c2, e2, hc', hm', hg⟩ := ho'.place (by omega)
      simp only [Value.slice.injEq] at e2
      obtain ⟨rfl, -, rfl⟩ := e2
      simp only [maxLen] at hm'
      have hst := absorb_step s' b' hlt
      rw [he] at hst
      have HST := Lib.hid hst
      have hI : (64 : Int) ≤ (b'.length : Int) := by omega
      have hbl' : (b'.length : Int) ≤ 140737488355328 := by omega
      obtain ⟨sa, sb, sc, sd, se, sf, sg, sh⟩ := s'
      have q0 := hS.cell 0
      have q1 := hS.cell 1
      have q2 := hS.cell 2
      have q3 := hS.cell 3
      have q4 := hS.cell 4
      have q5 := hS.cell 5
      have q6 := hS.cell 6
      have q7 := hS.cell 7
      simp only [srow, ucell, List.getElem?_toArray, List.getElem?_cons_zero, List.getElem?_cons_succ] at q0 q1 q2 q3 q4 q5 q6 q7
      clear hst he
      go_wp2
      refine region_draws_tail 3 (by kernel_rfl) (by kernel_rfl) ?_
      simp only [List.take_succ_cons, List.take_zero, List.drop_succ_cons, List.drop_zero]
      repeat (go_big_quiet_step (fail))
      refine wpQuiet_nil ?_
      rintro _ ⟨nq, rfl⟩
      have hkd : Keeps (fun _ => False) wr (wr.drewN nq) := (Keeps.refl _ wr).drewN nq
      go_wp2_with (first | (go_at_call 20; refine (add_any ⟨sa, sb, sc, sd, se, sf, sg, sh⟩ _ (b'.take 64) _ _ ((ho'.keeps hkd (fun _ _ h => h)).bat.take 64 hlt) (by rw [List.length_take]; omega) (hT.keeps hkd)).mono ?_; rintro e w3 ⟨rfl, hk3⟩) | (refine wpList_store_whole rfl 42 (.tmp 2) (.tmp 15) rfl S (srow (addS ⟨sa, sb, sc, sd, se, sf, sg, sh⟩ (b'.take 64))) rfl rfl _ (srow ⟨sa, sb, sc, sd, se, sf, sg, sh⟩) 8 ((hS.drewN nq).keeps hk3 (fun h => h)) rfl rfl (by kernel_rfl) (srow_one _) (fun w4 h4 hk4 => ?_); have hR4 := ((hR.drewN nq).keeps hk3 (fun h => h)).keeps hk4 (fun e => hSR e.symm); have cR4 := hR4.one; have fR4 := hR4.frozen 0; clear cR fR q0 q1 q2 q3 q4 q5 q6 q7))
      obtain ⟨o2, e2, ho2⟩ := BOwn.cut ho' 64 hlt
      rw [e2, show b'.length - 64 = (b'.drop 64).length from List.length_drop.symm]
      have hk4' : Keeps (· = S) wr w4 := Keeps.trans (S := (· = S)) ((Keeps.trans hkd hk3 (fun _ _ h => h)).mono (fun _ _ h => h.elim)) hk4 (fun _ _ h => h)
      have hgR : (Value.slice (some ⟨g, off, none⟩) b'.length c').ownBlock ≠ some R := ho'.apart hR (by decide)
      have hgS : (Value.slice (some ⟨g, off, none⟩) b'.length c').ownBlock ≠ some S := ho'.apart hS (by decide)
      have hgR' : g ≠ R := fun e => hgR (by rw [e]; rfl)
      have hgS' : g ≠ S := fun e => hgS (by rw [e]; rfl)
      have ho4 := (ho2.keeps hk4' (fun b hb e => hgS' (by simpa [Value.ownBlock, e] using hb))).keeps (Keeps.setCell (S := (· = R)) (Keeps.refl _ w4) ⟨R, 0, none⟩ (.slice (some ⟨g, o2, none⟩) (b'.drop 64).length (c' - 64)) (.inl rfl)) (fun b hb e => hgR' (by simpa [Value.ownBlock, e] using hb))
      refine ⟨⟨_, b'.drop 64, _, _, HST.out.symm, by rw [List.length_drop]; omega, hR4.set 0 _, ho4, h4.setOther _ _ hSR, ?_, ?_, ?_⟩, ?_⟩
      · exact fun k hk => (Keeps.setCell (S := (· = R)) (Keeps.refl _ w4) _ _ (.inl rfl)).cell (hk4'.cell (hT k hk) h0S) h0R
      · exact (hkw.trans hk4' (fun _ _ e => .inr (.inl e))).setCell _ _ (.inl (.inl rfl))
      · exact hpl
      · rw [slen_row (hR4.set 0 _), slen_row hR, List.length_drop]
        omega
    · have hI : (b'.length : Int) < 64 := by omega
      go_wp2
      go_end0
      rw [absorb_done s' b' (by omega)] at he
      rw [← he]
      exact ⟨⟨_, rfl⟩, _, hR, ho', hS, hT, hkw, hpl⟩

end Go.Proofs.YtkcnllbfinjaiaaDoor
