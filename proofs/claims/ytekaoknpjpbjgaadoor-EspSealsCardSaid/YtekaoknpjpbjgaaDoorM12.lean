/- Words, walks and plain laws that the claim leans on, part 12. -/
import Derived.Test.YtekaoknpjpbjgaaDoorM5
import Derived.Test.YtekaoknpjpbjgaaDoorM11

/-! digest.Of's inner function: bytes are eaten, block by block. -/
namespace Go.Proofs.YtekaoknpjpbjgaaDoor
set_option linter.unusedVariables false
set_option linter.unusedSimpArgs false
open Go.RowKit

/-- n blocks of bytes into a state. -/
def absorbN : Nat → S8 → List UInt8 → S8
  | 0, s, _ => s
  | n + 1, s, bs => absorbN n (addS s (bs.take 64)) (bs.drop 64)
/-- All whole blocks; what is left. -/
def absorb (s : S8) (bs : List UInt8) : S8 × List UInt8 := (absorbN (bs.length / 64) s bs, bs.drop (64 * (bs.length / 64)))
theorem absorb_done (s : S8) (bs : List UInt8) (h : bs.length < 64) : absorb s bs = (s, bs) := by
  unfold absorb
  rw [Nat.div_eq_of_lt h]
  rfl
theorem absorb_step (s : S8) (bs : List UInt8) (h : 64 ≤ bs.length) : absorb s bs = absorb (addS s (bs.take 64)) (bs.drop 64) := by
  unfold absorb
  have e : bs.length / 64 = (bs.drop 64).length / 64 + 1 := by rw [List.length_drop]; omega
  rw [e, absorbN, List.drop_drop, Nat.mul_add, Nat.add_comm]
theorem absorb_append (n : Nat) : ∀ (s : S8) (a b : List UInt8), a.length ≤ n → absorb (absorb s a).1 ((absorb s a).2 ++ b) = absorb s (a ++ b) := by
  induction n using Nat.strongRecOn with
  | _ n ih =>
    intro s a b hn
    by_cases h : a.length < 64
    · rw [absorb_done s a h]
    · rw [absorb_step s a (by omega), absorb_step s (a ++ b) (by rw [List.length_append]; omega), List.take_append_of_le_length (by omega), List.drop_append_of_le_length (by omega)]
      exact ih (n - 64) (by omega) _ _ _ (by rw [List.length_drop]; omega)
theorem absorb_left (s : S8) (a : List UInt8) : (absorb s a).2.length < 64 := by
  unfold absorb
  rw [List.length_drop]
  omega

/-- How many elements the slice in the first cell of a block has. -/
def slen (w : World) (R : Nat) : Nat := match w.cell? ⟨R, 0, none⟩ with
  | some (.slice _ n _) => n
  | _ => 0
theorem slen_row {w : World} {R T n c : Nat} {a : Option Addr} (h : RowAt w R #[.slice a n c] T) : slen w R = n := by
  unfold slen; rw [h.one]

set_option maxRecDepth 100000 in
set_option maxHeartbeats 2000000 in
theorem eat_any (s : S8) (rest l : List UInt8) (rv v : Value) (w : World) (p : Nat → Prop) (B R S : Nat) (h : BAt w p v l) (hR : RowAt w R #[rv] 25) (hS : RowAt w S (srow s) 104)
    (ho : BOwn w B rv rest) (hB : B ≤ w.heap.size) (hmax : rest.length + l.length ≤ 140737488355328) (hT : Table w) (hSR : S ≠ R) (h0R : 0 ≠ R) (h0S : 0 ≠ S) (h0B : 0 < B) :
    Calls Tryd.prog 74 #[v, .pointer (some ⟨R, 0, none⟩), .pointer (some ⟨S, 0, none⟩)] w fun e w' => (∃ x, e = .returned x) ∧
      ∃ rv', RowAt w' R #[rv'] 25 ∧ BOwn w' B rv' (absorb s (rest ++ l)).2 ∧ RowAt w' S (srow (absorb s (rest ++ l)).1) 104 ∧ Table w' ∧ Keeps (fun b => b = R ∨ b = S ∨ rv.ownBlock = some b) w w' ∧
        (rv'.ownBlock = rv.ownBlock ∨ ∀ b, rv'.ownBlock = some b → w.heap.size ≤ b) := by
  obtain ⟨rv1, w1, hrun, ho1, hk1, hp1⟩ := run_append_bytes (ty := 25) ho h hmax hB
  obtain ⟨bs, hbs⟩ : ∃ bs, rest ++ l = bs := ⟨_, rfl⟩
  have hbl : bs.length ≤ 140737488355328 := by rw [← hbs, List.length_append]; exact hmax
  rw [hbs] at ho1 ⊢
  clear hbs hmax h
  obtain ⟨a1, cap1, rfl, hcap1, hmx1⟩ := ho1.slice
  have aR := ho.apart hR (by decide)
  have aS := ho.apart hS (by decide)
  have hR1 := hR.keeps hk1 aR
  have hS1 := hS.keeps hk1 aS
  have a1R := ho1.apart hR1 (by decide)
  have a1S := ho1.apart hS1 (by decide)
  have HR := Lib.hid hrun
  have c0 := hR.one
  have c1 := hR1.one
  have f1 := hR1.frozen 0
  have hT1 : Table w1 := fun k hk => hk1.cell (hT k hk) (fun e => by have := (ho.block 0 e).1; omega)
  simp only [maxLen] at hmx1
  go_enter Tryd.func74, Tryd.ntmps74
  clear hrun
  go_wp2_with (at_builtin; refine Lib.wpList_append_run _ rfl _ _ _ _ rfl _ _ rfl rfl _ _ HR.out ?_)
  go_loopw [9] (fun _ wr => ∃ (s' : S8) (b' : List UInt8) (a' : Option Addr) (c' : Nat), absorb s' b' = absorb s bs ∧ b'.length ≤ bs.length ∧ RowAt wr R #[.slice a' b'.length c'] 25 ∧ BOwn wr B (.slice a' b'.length c') b' ∧ RowAt wr S (srow s') 104 ∧ Table wr ∧
    Keeps (fun b => b = R ∨ b = S ∨ rv.ownBlock = some b) w wr ∧ ((Value.slice a' b'.length c').ownBlock = rv.ownBlock ∨ ∀ b, (Value.slice a' b'.length c').ownBlock = some b → w.heap.size ≤ b)) (fun _ wr => slen wr R)
  case atStart =>
    refine ⟨s, bs, a1, cap1, rfl, Nat.le_refl _, hR1.set 0 _, ho1.keeps (Keeps.setCell (S := (· = R)) (Keeps.refl _ _) _ _ (.inl rfl)) (fun b hb e => a1R (e ▸ hb)), hS1.setOther _ _ hSR, ?_, ?_, ?_⟩
    · exact fun k hk => (Keeps.setCell (S := (· = R)) (Keeps.refl _ w1) _ _ (.inl rfl)).cell (hT1 k hk) h0R
    · exact (hk1.mono (fun _ _ h => .inr (.inr h))).setCell _ _ (.inl (.inl rfl))
    · exact hp1.imp id (fun ⟨b, e, hb⟩ b' e' => by rw [e] at e'; cases e'; exact hb)
  case round =>
    obtain ⟨s', b', a', c', he, hle, hR, ho', hS, hT, hkw, hpl⟩ := hrel
    have cR := hR.one
    have fR := hR.frozen 0
    by_cases hlt : 64 ≤ b'.length
    · obtain ⟨g, off, c2, e2, hc', hm', hg⟩ := ho'.place (by omega)
      simp only [Value.slice.injEq] at e2
      obtain ⟨rfl, -, rfl⟩ := e2
      simp only [maxLen] at hm'
      have hst := absorb_step s' b' hlt
      rw [he] at hst
      have HST := Lib.hid hst
      have hI : (64 : Int) ≤ (b'.length : Int) := by omega
      have hbl' : (b'.length : Int) ≤ 140737488355328 := by omega
      obtain ⟨sa, sb, sc, sd, se, sf, sg, sh⟩ := s'
      have q0 := hS.cell 0
      have q1 := hS.cell 1
      have q2 := hS.cell 2
      have q3 := hS.cell 3
      have q4 := hS.cell 4
      have q5 := hS.cell 5
      have q6 := hS.cell 6
      have q7 := hS.cell 7
      simp only [srow, ucell, List.getElem?_toArray, List.getElem?_cons_zero, List.getElem?_cons_succ] at q0 q1 q2 q3 q4 q5 q6 q7
      clear hst he
      go_wp2
      refine region_draws_tail 3 (by kernel_rfl) (by kernel_rfl) ?_
      simp only [List.take_succ_cons, List.take_zero, List.drop_succ_cons, List.drop_zero]
      repeat (go_big_quiet_step (fail))
      refine wpQuiet_nil ?_
      rintro _ ⟨nq, rfl⟩
      have hkd : Keeps (fun _ => False) wr (wr.drewN nq) := (Keeps.refl _ wr).drewN nq
      go_wp2_with (first | (go_at_call 75; refine (add_any ⟨sa, sb, sc, sd, se, sf, sg, sh⟩ _ (b'.take 64) _ _ ((ho'.keeps hkd (fun _ _ h => h)).bat.take 64 hlt) (by rw [List.length_take]; omega) (hT.keeps hkd)).mono ?_; rintro e w3 ⟨rfl, hk3⟩) | (refine wpList_store_whole rfl 104 (.tmp 2) (.tmp 15) rfl S (srow (addS ⟨sa, sb, sc, sd, se, sf, sg, sh⟩ (b'.take 64))) rfl rfl _ (srow ⟨sa, sb, sc, sd, se, sf, sg, sh⟩) 8 ((hS.drewN nq).keeps hk3 (fun h => h)) rfl rfl (by kernel_rfl) (srow_one _) (fun w4 h4 hk4 => ?_); have hR4 := ((hR.drewN nq).keeps hk3 (fun h => h)).keeps hk4 (fun e => hSR e.symm); have cR4 := hR4.one; have fR4 := hR4.frozen 0; clear cR fR q0 q1 q2 q3 q4 q5 q6 q7))
      obtain ⟨o2, e2, ho2⟩ := BOwn.cut ho' 64 hlt
      rw [e2, show b'.length - 64 = (b'.drop 64).length from List.length_drop.symm]
      have hk4' : Keeps (· = S) wr w4 := Keeps.trans (S := (· = S)) ((Keeps.trans hkd hk3 (fun _ _ h => h)).mono (fun _ _ h => h.elim)) hk4 (fun _ _ h => h)
      have hgR : (Value.slice (some ⟨g, off, none⟩) b'.length c').ownBlock ≠ some R := ho'.apart hR (by decide)
      have hgS : (Value.slice (some ⟨g, off, none⟩) b'.length c').ownBlock ≠ some S := ho'.apart hS (by decide)
      have hgR' : g ≠ R := fun e => hgR (by rw [e]; rfl)
      have hgS' : g ≠ S := fun e => hgS (by rw [e]; rfl)
      have ho4 := (ho2.keeps hk4' (fun b hb e => hgS' (by simpa [Value.ownBlock, e] using hb))).keeps (Keeps.setCell (S := (· = R)) (Keeps.refl _ w4) ⟨R, 0, none⟩ (.slice (some ⟨g, o2, none⟩) (b'.drop 64).length (c' - 64)) (.inl rfl)) (fun b hb e => hgR' (by simpa [Value.ownBlock, e] using hb))
      refine ⟨⟨_, b'.drop 64, _, _, HST.out.symm, by rw [List.length_drop]; omega, hR4.set 0 _, ho4, h4.setOther _ _ hSR, ?_, ?_, ?_⟩, ?_⟩
      · exact fun k hk => (Keeps.setCell (S := (· = R)) (Keeps.refl _ w4) _ _ (.inl rfl)).cell (hk4'.cell (hT k hk) h0S) h0R
      · exact (hkw.trans hk4' (fun _ _ e => .inr (.inl e))).setCell _ _ (.inl (.inl rfl))
      · exact hpl
      · rw [slen_row (hR4.set 0 _), slen_row hR, List.length_drop]
        omega
    · have hI : (b'.length : Int) < 64 := by omega
      go_wp2
      go_end0
      rw [absorb_done s' b' (by omega)] at he
      rw [← he]
      exact ⟨⟨_, rfl⟩, _, hR, ho', hS, hT, hkw, hpl⟩

end Go.Proofs.YtekaoknpjpbjgaaDoor

/-! digest.Of. -/
namespace Go.Proofs.YtekaoknpjpbjgaaDoor
set_option linter.unusedVariables false
set_option linter.unusedSimpArgs false
open Go.RowKit

def s0 : S8 := ⟨kAt 64, kAt 65, kAt 66, kAt 67, kAt 68, kAt 69, kAt 70, kAt 71⟩
def s0row (k : Nat) : Array Value :=
  #[ucell (if 0 < k then kAt 64 else 0), ucell (if 1 < k then kAt 65 else 0), ucell (if 2 < k then kAt 66 else 0), ucell (if 3 < k then kAt 67 else 0),
    ucell (if 4 < k then kAt 68 else 0), ucell (if 5 < k then kAt 69 else 0), ucell (if 6 < k then kAt 70 else 0), ucell (if 7 < k then kAt 71 else 0)]
theorem s0row_step (k : Nat) (hk : k < 8) : (∃ x : Value, (s0row k)[k]? = some x) ∧ (s0row k).setIfInBounds k (.int .u32 ((kAt (64 + k)).toNat : Int)) = s0row (k + 1) := by
  match k, hk with
  | 0, _ => exact ⟨⟨_, rfl⟩, rfl⟩
  | 1, _ => exact ⟨⟨_, rfl⟩, rfl⟩
  | 2, _ => exact ⟨⟨_, rfl⟩, rfl⟩
  | 3, _ => exact ⟨⟨_, rfl⟩, rfl⟩
  | 4, _ => exact ⟨⟨_, rfl⟩, rfl⟩
  | 5, _ => exact ⟨⟨_, rfl⟩, rfl⟩
  | 6, _ => exact ⟨⟨_, rfl⟩, rfl⟩
  | 7, _ => exact ⟨⟨_, rfl⟩, rfl⟩
theorem s0row_full : s0row 8 = srow s0 := rfl
/-- How many bits, in eight bytes. -/
def len8 (n : Nat) : List UInt8 := (List.range 8).map fun k => UInt8.ofNat (n * 8 / 2 ^ (56 - 8 * k))
/-- What stands behind n bytes. -/
def tailOf (n : Nat) : List UInt8 := 128 :: List.replicate ((119 - n % 64) % 64) 0 ++ len8 n
def b4 (x : UInt32) : List UInt8 := [UInt8.ofNat (x.toNat / 16777216), UInt8.ofNat (x.toNat / 65536), UInt8.ofNat (x.toNat / 256), UInt8.ofNat x.toNat]
def words8 (s : S8) : List UInt32 := [s.a, s.b, s.c, s.d, s.e, s.f, s.g, s.h]
def outOf (s : S8) : List UInt8 := ((words8 s).map b4).flatten
/-- The digest. -/
def sha (m : List UInt8) : List UInt8 := outOf (absorb s0 (m ++ tailOf m.length)).1

theorem len8_step (N i : Nat) (hi : i < 8) : (len8 N).take (i + 1) = (len8 N).take i ++ [UInt8.ofNat (N * 8 / 2 ^ (56 - 8 * i))] := by
  have hl : i < (len8 N).length := by simpa [len8] using hi
  rw [List.take_succ_eq_append_getElem hl]
  simp [len8]
theorem byte_of (M e : Nat) : ((M : Int) * 8 / 2 ^ e % 256) = ((UInt8.ofNat (M * 8 / 2 ^ e)).toNat : Int) := by
  rw [UInt8.toNat_ofNat', Int.natCast_emod, Int.natCast_ediv, Int.natCast_mul, Int.natCast_pow]
  rfl

theorem srow_get (s : S8) (k : Nat) (hk : k < 8) : (srow s)[k]? = some (.int .u32 (((words8 s).getD k 0).toNat : Int)) := by
  match k, hk with
  | 0, _ => rfl
  | 1, _ => rfl
  | 2, _ => rfl
  | 3, _ => rfl
  | 4, _ => rfl
  | 5, _ => rfl
  | 6, _ => rfl
  | 7, _ => rfl
theorem byte_at (x : UInt32) (d : Nat) : ((x.toNat : Int) / (d : Int) % 256) = ((UInt8.ofNat (x.toNat / d)).toNat : Int) := by
  rw [UInt8.toNat_ofNat', Int.natCast_emod, Int.natCast_ediv]
  rfl
theorem b4_cells (x : UInt32) : #[.int .u8 ((x.toNat : Int) / 16777216 % 256), .int .u8 ((x.toNat : Int) / 65536 % 256), .int .u8 ((x.toNat : Int) / 256 % 256), .int .u8 ((x.toNat : Int) % 256)] = (bcells (b4 x)).toArray := by
  rw [show (16777216 : Int) = ((16777216 : Nat) : Int) from rfl, byte_at, show (65536 : Int) = ((65536 : Nat) : Int) from rfl, byte_at]
  have h1 := byte_at x 256
  have h2 := byte_at x 1
  rw [show ((256 : Nat) : Int) = 256 from rfl] at h1
  rw [show ((1 : Nat) : Int) = 1 from rfl, Int.ediv_one, Nat.div_one] at h2
  rw [h1, h2]
  rfl
theorem out_step (s : S8) (k : Nat) (hk : k < 8) : (((words8 s).take k).map b4).flatten ++ b4 ((words8 s).getD k 0) = (((words8 s).take (k + 1)).map b4).flatten := by
  have hl : k < (words8 s).length := hk
  rw [List.take_succ_eq_append_getElem hl, List.map_append, List.flatten_append]
  simp [hl]
theorem out_len (s : S8) (k : Nat) : (((words8 s).take k).map b4).flatten.length ≤ 32 := by
  have : ∀ l : List UInt32, (l.map b4).flatten.length = 4 * l.length := fun l => by
    induction l with
    | nil => rfl
    | cons x r ih => rw [List.map_cons, List.flatten_cons, List.length_append, ih, List.length_cons]; simp [b4]; omega
  rw [this, List.length_take]
  have : (words8 s).length = 8 := rfl
  omega

set_option maxRecDepth 100000 in
set_option maxHeartbeats 2000000 in
theorem of_any (v : Value) (ls : List (List UInt8)) (w : World) (h : BBAt w (· < w.heap.size) (· < w.heap.size) v ls) (hl : ls.flatten.length ≤ 1099511627776) (hT : Table w) :
    Calls Tryd.prog 59 #[v] w (Gives (sha ls.flatten) w) := by
  obtain ⟨a, c, rfl, hc, hm⟩ := h.slice
  simp only [maxLen] at hm
  have hB0 : 0 < w.heap.size := World.block_lt_of_cell? w _ (hT 0 (by omega))
  go_enter Tryd.func59, Tryd.ntmps59
  go_wp2
  go_loopw [15] (fun u15 wr => ∃ k : Nat, k ≤ 8 ∧ u15 = .int .i64 k ∧ RowAt wr w.heap.size (s0row k) 104 ∧ Keeps (fun _ => False) w wr) (fun u15 _ => 8 - (intOf u15).toNat)
  case atStart => exact ⟨0, by omega, rfl, (RowAt.new w _ _).eq rfl, (Keeps.refl _ w).alloc _⟩
  case round =>
    obtain ⟨k, hk, rfl, h0, hkw⟩ := hrel
    by_cases hlt : k < 8
    · obtain ⟨⟨x, gx⟩, g2⟩ := s0row_step k hlt
      have c1 := (h0.cell k).trans gx
      have f1 := h0.frozen k
      have c2 := (hT.keeps hkw) (64 + k) (by omega)
      have G := Lib.hid g2
      clear g2 gx
      go_wp2
      go_roundw
      case rel => exact ⟨k + 1, by omega, by go_num, (h0.set k _).eq G.out, hkw.setCell _ _ (.inr (by simp))⟩
      case measure => simp [intOf]; omega
    · have hk8 : k = 8 := by omega
      have hk8' : (8 : Int) ≤ (k : Int) := by omega
      rw [hk8, s0row_full] at h0
      clear hk8
      go_wp2
      have hRl : w.heap.size < wr.heap.size := h0.lt
      have hR0 := RowAt.new wr #[.slice none 0 0] 25
      have hS0 := h0.alloc (.cells #[.slice none 0 0] 25)
      have hk0 := hkw.alloc (.cells #[.slice none 0 0] 25)
      obtain ⟨R, hRe⟩ : ∃ R, wr.heap.size = R := ⟨_, rfl⟩
      rw [hRe] at hRl hR0 ⊢
      obtain ⟨w1, hw1⟩ : ∃ w1, wr.alloc (.cells #[.slice none 0 0] 25) = w1 := ⟨_, rfl⟩
      rw [hw1] at hR0 hS0 hk0 ⊢
      clear hw1 hRe hkw h0
      go_loopw [6, 28] (fun u6 u28 wr => ∃ (j : Nat) (rv : Value) (N : Nat), j ≤ ls.length ∧ u28 = .int .i64 j ∧ u6 = .int .i64 N ∧ N = (ls.take j).flatten.length ∧ RowAt wr R #[rv] 25 ∧ BOwn wr w.heap.size rv (absorb s0 (ls.take j).flatten).2 ∧ RowAt wr w.heap.size (srow (absorb s0 (ls.take j).flatten).1) 104 ∧ Keeps (fun _ => False) w wr) (fun _ u28 _ => ls.length - (intOf u28).toNat)
      case atStart => 
        have e0 : absorb s0 (ls.take 0).flatten = (s0, []) := absorb_done s0 _ (by simp)
        exact ⟨0, .slice none 0 0, 0, by omega, rfl, rfl, rfl, hR0, by rw [e0]; exact BOwn.nil _ _, by rw [e0]; exact hS0, hk0⟩
      case round =>
        obtain ⟨j, rv, N, hj, rfl, rfl, hN, hR, ho, hS, hkw⟩ := hrel
        by_cases hlt : j < ls.length
        · obtain ⟨b, off, c', he, -, -, hb, hcell⟩ := h.get (by omega)
          obtain ⟨rfl, -, rfl⟩ : a = some ⟨b, off, none⟩ ∧ True ∧ c = c' := by
            simp only [Value.slice.injEq] at he
            exact ⟨he.1, trivial, he.2.2⟩
          obtain ⟨x, hx, hbx⟩ := hcell j hlt
          have hx' := hkw.cell hx (fun h => h)
          have hbx' := hbx.keeps hkw (fun _ _ h => h)
          obtain ⟨a2, c2, rfl, hc2, hm2⟩ := hbx.slice
          have hle := flat_le ls (j + 1)
          rw [List.take_succ_eq_append_getElem hlt, List.flatten_append, List.length_append] at hle
          rw [← hN, show [ls[j]].flatten = ls[j] from by simp] at hle
          have hle' : (N : Int) + (ls[j].length : Int) ≤ 1099511627776 := by omega
          have hleft := absorb_left s0 (ls.take j).flatten
          simp only [maxLen] at hm2
          have hTr := hT.keeps hkw
          have hle2 : (absorb s0 (ls.take j).flatten).2.length + ls[j].length ≤ 140737488355328 := by omega
          have hle3 : (N : Int) ≤ 1099511627776 := by omega
          have HN := Lib.hid hN
          clear hcell he hle hx hN hl
          go_wp2_with (go_at_call 74; refine (eat_any (absorb s0 (ls.take j).flatten).1 (absorb s0 (ls.take j).flatten).2 ls[j] rv _ _ _ w.heap.size R w.heap.size hbx' hR hS ho hkw.size hle2 hTr (by omega) (by omega) (by omega) hB0).mono ?_; rintro e w3 ⟨⟨_, rfl⟩, rv3, hR3, ho3, hS3, hT3, hk3, hp3⟩)
          go_roundw
          case rel =>
            have ea := absorb_append _ s0 (ls.take j).flatten ls[j] (Nat.le_refl _)
            have et : (ls.take j).flatten ++ ls[j] = (ls.take (j + 1)).flatten := by rw [List.take_succ_eq_append_getElem hlt, List.flatten_append]; simp
            rw [ea, et] at ho3 hS3
            exact ⟨j + 1, rv3, N + ls[j].length, by omega, by go_num, by go_num, by rw [← et, List.length_append, HN.out], hR3, ho3, hS3, hkw.from hk3 (fun i hi => hi.elim (fun e => by omega) (fun hi => hi.elim (fun e => by omega) (fun hi => (ho.block i hi).1)))⟩
          case measure => simp [intOf]; omega
        · obtain rfl : j = ls.length := by omega
          rw [List.take_length] at hS ho hN
          have hN' : N ≤ 1099511627776 := by omega
          obtain ⟨m, hm'⟩ : ∃ m, ls.flatten = m := ⟨_, rfl⟩
          rw [hm'] at hS ho hN hl
          have hmm := hm'
          have HN := Lib.hid hN
          clear hN hm' hl h hk0 hS0 hR0
          have hZ : ((119 - (N : Int)) % 64) = (((119 - N % 64) % 64 : Nat) : Int) := by omega
          obtain ⟨Z, hZe⟩ : ∃ Z, (119 - N % 64) % 64 = Z := ⟨_, rfl⟩
          have hZl : Z < 64 := by omega
          rw [hZe] at hZ
          have HZ := Lib.hid hZ
          have HZe := Lib.hid hZe
          clear hZ hZe
          go_wp2_with (at_make; (refine wpList_make_bytes rfl (.tmp 44) (.const (.int .i64 128)) rfl wr.heap.size _ _ (1 + Z) 128 rfl rfl (by have := HZ.out; omega) rfl (by omega) (by omega) (Nat.le_refl _) (fun w4 h4 hk4 => ?_)); obtain ⟨t1, t2, t3⟩ := h4.at 0 (by rw [List.length_replicate]; omega); rw [Nat.add_zero] at t1 t2 t3)
          have hRT : R < wr.heap.size := hR.lt
          have hST : w.heap.size < wr.heap.size := hS.lt
          have htail := t3 128
          rw [show (List.replicate (1 + Z) (0 : UInt8)).set 0 128 = 128 :: List.replicate Z 0 by rw [Nat.add_comm, List.replicate_succ]; rfl] at htail
          have hR5 := (hR.keeps hk4 (fun h => h)).setOther ⟨wr.heap.size, 0, none⟩ (.int .u8 128) (by simp; omega)
          have hS5 := (hS.keeps hk4 (fun h => h)).setOther ⟨wr.heap.size, 0, none⟩ (.int .u8 128) (by simp; omega)
          have ho5 := (ho.keeps hk4 (fun _ _ h => h)).keeps (Keeps.setCell (S := (· = wr.heap.size)) (Keeps.refl _ w4) ⟨wr.heap.size, 0, none⟩ (.int .u8 128) (.inl rfl)) (fun b hb e => by have := (ho.block b hb).2; omega)
          have hk5 : Keeps (fun _ => False) w (w4.setCell ⟨wr.heap.size, 0, none⟩ (.int .u8 128)) := (hkw.trans hk4 (fun _ _ h => h)).setCell _ _ (.inr (by simp; omega))
          have hrl : ∀ b, rv.ownBlock = some b → b < wr.heap.size := fun b hb => (ho.block b hb).2
          change BOwn (w4.setCell ⟨wr.heap.size, 0, none⟩ (.int .u8 128)) _ _ _ at htail
          obtain ⟨w5, hw5⟩ : ∃ w5, w4.setCell ⟨wr.heap.size, 0, none⟩ (.int .u8 128) = w5 := ⟨_, rfl⟩
          rw [hw5] at htail hR5 hS5 ho5 hk5 ⊢
          obtain ⟨TB, hTB⟩ : ∃ TB, wr.heap.size = TB := ⟨_, rfl⟩
          rw [hTB] at htail hRT hST hrl ⊢
          clear hw5 t1 t2 t3 h4 hk4 hR hS ho hkw hTB
          go_loopw [10, 48] (fun u10 u48 wq => ∃ (i : Nat), i ≤ 8 ∧ u48 = .int .i64 i ∧ BOwn wq TB u10 (128 :: List.replicate Z 0 ++ (len8 N).take i) ∧ RowAt wq R #[rv] 25 ∧ BOwn wq w.heap.size rv (absorb s0 m).2 ∧ RowAt wq w.heap.size (srow (absorb s0 m).1) 104 ∧ Keeps (fun _ => False) w wq) (fun _ u48 _ => 8 - (intOf u48).toNat)
          case atStart => exact ⟨0, by omega, rfl, by simpa using htail, hR5, ho5, hS5, hk5⟩
          case round =>
            obtain ⟨i, hi, rfl, ht, hR, ho, hS, hkw⟩ := hrel
            by_cases hlt : i < 8
            · have hTBs : TB ≤ wr.heap.size := by
                obtain ⟨g, _, _, e, -, -, hg⟩ := ht.place (by simp)
                have := (ht.block g (by rw [e]; rfl)).2
                omega
              have hll : (128 :: List.replicate Z 0 ++ (len8 N).take i : List UInt8).length ≤ 200 := by simp [len8]; omega
              obtain ⟨tv2, w6, hrun, ht2, hk6, hp6⟩ := run_append_bytes (ty := 25) (ht.keeps ((Keeps.refl (fun _ => False) wr).alloc (.cells #[.int .u8 ((N : Int) * 8 / 2 ^ (56 - 8 * i) % 256)] 5)) (fun _ _ h => h)) (BAt.one wr _ _ 5 (byte_of N (56 - 8 * i))) (by rw [List.length_singleton]; omega) (by rw [size_alloc]; omega)
              have HR := Lib.hid hrun
              clear hrun hll
              go_wp2_with (at_builtin; refine Lib.wpList_append_run _ rfl _ _ _ _ rfl _ _ rfl rfl _ _ HR.out ?_)
              have htb : ∀ b, u10.ownBlock = some b → TB ≤ b := fun b hb => (ht.block b hb).1
              go_roundw
              case rel => exact ⟨i + 1, by omega, by go_num, by rw [len8_step N i hlt, ← List.append_assoc]; exact ht2, (hR.alloc _).keeps hk6 (fun e => by have := htb _ e; omega), (ho.keeps ((Keeps.refl (fun _ => False) wr).alloc _) (fun _ _ h => h)).keeps hk6 (fun b hb e => by have := htb _ e; have := hrl b hb; omega), (hS.alloc _).keeps hk6 (fun e => by have := htb _ e; omega), (hkw.alloc _).from hk6 (fun b hb => by have := htb b hb; omega)⟩
              case measure => simp [intOf]; omega
            · have hi8 : (len8 N).take i = len8 N := List.take_of_length_le (by simp [len8]; omega)
              have hi8' : (8 : Int) ≤ (i : Int) := by omega
              have hll : (128 :: List.replicate Z 0 ++ len8 N : List UInt8).length ≤ 200 := by simp [len8]; omega
              have hleft := absorb_left s0 m
              rw [hi8] at ht
              have hte : 128 :: List.replicate Z 0 ++ len8 N = tailOf m.length := by unfold tailOf; rw [← HN.out, HZe.out]
              rw [hte] at ht hll
              obtain ⟨F, hF⟩ : ∃ F, (absorb s0 (m ++ tailOf m.length)).1 = F := ⟨_, rfl⟩
              have HSHA : sha ls.flatten = outOf F := by rw [hmm, ← hF]; rfl
              have ea := absorb_append _ s0 m (tailOf m.length) (Nat.le_refl _)
              have es := congrArg Prod.fst ea
              rw [hF] at es
              have HS := Lib.hid HSHA
              clear hi8 hte ea hF HSHA hmm
              go_wp2_with (first | (go_at_call 74; refine (eat_any (absorb s0 m).1 (absorb s0 m).2 (tailOf m.length) rv _ _ _ w.heap.size R w.heap.size ht.bat hR hS ho hkw.size (by omega) (hT.keeps hkw) (by omega) (by omega) (by omega) hB0).mono ?_; rintro e w3 ⟨⟨_, rfl⟩, rv3, hR3, ho3, hS3, hT3, hk3, hp3⟩; rw [es] at hS3) | (refine wpList_load_whole rfl 104 (.tmp 3) rfl _ rfl _ (srow F) 8 102 hS3 (by kernel_rfl) rfl (by kernel_rfl) ?_))
              have hk3' : Keeps (fun _ => False) w w3 := hkw.from hk3 (fun i hi => hi.elim (fun e => by omega) (fun hi => hi.elim (fun e => by omega) (fun hi => (ho.block i hi).1)))
              clear hk3 hp3 hR3 ho3 hS3 hT3 es ht hR ho hS hkw htail hR5 hS5 ho5 hk5 hll hleft hlt
              go_loopw [12, 67] (fun u12 u67 wq => ∃ i : Nat, i ≤ 8 ∧ u67 = .int .i64 i ∧ BOwn wq w.heap.size u12 (((words8 F).take i).map b4).flatten ∧ Keeps (fun _ => False) w wq) (fun _ u67 _ => 8 - (intOf u67).toNat)
              case atStart => exact ⟨0, by omega, rfl, BOwn.nil _ _, hk3'⟩
              case round =>
                obtain ⟨i, hi, rfl, ho, hkw⟩ := hrel
                by_cases hlt : i < 8
                · have hI := run_index_row (P := Tryd.prog) (t := 104) (e := 102) (n := 8) (d := .int .u32) (by kernel_rfl) hlt (by kernel_rfl) rfl (by kernel_rfl) (srow_get F i hlt)
                  have hst := out_step F i hlt
                  obtain ⟨x, hx⟩ : ∃ x, (words8 F).getD i 0 = x := ⟨_, rfl⟩
                  rw [hx] at hI hst
                  have hol := out_len F i
                  obtain ⟨ov, w6, hrun, ho2, hk6, -⟩ := run_append_bytes (ty := 25) (ho.keeps ((Keeps.refl (fun _ => False) wr).alloc _) (fun _ _ h => h)) (BAt.lit wr _ (b4 x) 4 5 (b4_cells x) rfl (by omega)) (by have : (b4 x).length = 4 := rfl; omega) (by rw [size_alloc]; have := hkw.size; omega)
                  have HR := Lib.hid hrun
                  rw [hst] at ho2
                  clear hrun hx hst hol
                  go_wp2_with (at_builtin; refine Lib.wpList_append_run _ rfl _ _ _ _ rfl _ _ rfl rfl _ _ HR.out ?_)
                  go_roundw
                  case rel => exact ⟨i + 1, by omega, by go_num, ho2, (hkw.alloc _).from hk6 (fun b hb => (ho.block b hb).1)⟩
                  case measure => simp [intOf]; omega
                · have hi8 : i = 8 := by omega
                  have hi8' : (8 : Int) ≤ (i : Int) := by omega
                  rw [hi8] at ho
                  clear hi8
                  go_wp2
                  go_ret
                  exact ⟨_, rfl, by rw [HS.out]; exact ho, hkw⟩

end Go.Proofs.YtekaoknpjpbjgaaDoor
