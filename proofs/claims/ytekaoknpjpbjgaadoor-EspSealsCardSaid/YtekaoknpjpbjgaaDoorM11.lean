/- Words, walks and plain laws that the claim leans on, part 11. -/
import Derived.Test.YtekaoknpjpbjgaaDoorM6
import Derived.Test.YtekaoknpjpbjgaaDoorM9
import Derived.Test.YtekaoknpjpbjgaaDoorM10

/-! The words of a block. -/
namespace Go.Proofs.YtekaoknpjpbjgaaDoor
set_option linter.unusedVariables false
set_option linter.unusedSimpArgs false
open Go.RowKit

def ucell (x : UInt32) : Value := .int .u32 x.toNat
def ucells (l : List UInt32) : List Value := l.map ucell
theorem ucells_length (l : List UInt32) : (ucells l).length = l.length := by simp [ucells]
/-- Bytes as one number, the first the highest. -/
def bacc (bs : List UInt8) : UInt32 := bs.foldl (fun a x => UInt32.ofNat ((a.toNat * 256 % 4294967296) ||| x.toNat)) 0
def wnext (l : List UInt8) (ws : List UInt32) : UInt32 :=
  if ws.length < 16 then bacc ((l.drop (4 * ws.length)).take 4) else
    ws.getD (ws.length - 16) 0 + (rotr (ws.getD (ws.length - 15) 0) 7 ^^^ rotr (ws.getD (ws.length - 15) 0) 18 ^^^ shrN (ws.getD (ws.length - 15) 0) 3) + ws.getD (ws.length - 7) 0 +
      (rotr (ws.getD (ws.length - 2) 0) 17 ^^^ rotr (ws.getD (ws.length - 2) 0) 19 ^^^ shrN (ws.getD (ws.length - 2) 0) 10)
/-- The first k words of the block l. -/
def wlist (l : List UInt8) : Nat → List UInt32
  | 0 => []
  | k + 1 => wlist l k ++ [wnext l (wlist l k)]
theorem wlist_length (l : List UInt8) (k : Nat) : (wlist l k).length = k := by
  induction k with
  | zero => rfl
  | succ k ih => simp [wlist, ih]
/-- A row of 64 with k words, then v, then zeros. -/
def hole (xs : List Value) (v : Value) (k : Nat) : Array Value := (xs ++ v :: List.replicate (63 - k) (Value.int .u32 0)).toArray
theorem hole_set (xs : List Value) (u v : Value) (k : Nat) (h : xs.length = k) : (hole xs u k).setIfInBounds k v = hole xs v k := by
  subst h
  unfold hole
  rw [List.setIfInBounds_toArray]
  congr 1
  rw [List.set_append_right _ _ (Nat.le_refl _), Nat.sub_self]
  rfl
theorem hole_get (xs : List Value) (v : Value) (k : Nat) (h : xs.length = k) : (hole xs v k)[k]? = some v := by
  subst h
  unfold hole
  simp
theorem hole_low (xs : List Value) (v : Value) (k j : Nat) (h : xs.length = k) (hj : j < k) : (hole xs v k)[j]? = xs[j]? := by
  unfold hole
  rw [List.getElem?_toArray, List.getElem?_append_left (by omega)]
def warr (l : List UInt8) (k : Nat) : Array Value := (ucells (wlist l k) ++ List.replicate (64 - k) (Value.int .u32 0)).toArray
theorem warr_hole (l : List UInt8) (k : Nat) (h : k < 64) : warr l k = hole (ucells (wlist l k)) (Value.int .u32 0) k := by
  unfold warr hole
  rw [show 64 - k = (63 - k) + 1 by omega, List.replicate_succ]
theorem hole_warr (l : List UInt8) (k : Nat) (h : k < 64) : hole (ucells (wlist l k)) (ucell (wnext l (wlist l k))) k = warr l (k + 1) := by
  unfold warr hole
  rw [show 64 - (k + 1) = 63 - k by omega]
  simp [wlist, ucells]

theorem bacc_step (l : List UInt8) (k j : Nat) (h : 4 * k + j < l.length) (hj : j < 4) :
    bits .or .u32 (((bacc ((l.drop (4 * k)).take j)).toNat : Int) * 256 % 4294967296) ((l[4 * k + j].toNat : Int) % 4294967296) = ((bacc ((l.drop (4 * k)).take (j + 1))).toNat : Int) := by
  have hd : j < (l.drop (4 * k)).length := by rw [List.length_drop]; omega
  have hv : (l.drop (4 * k))[j] = l[4 * k + j] := by rw [List.getElem_drop]
  rw [List.take_succ_eq_append_getElem hd, hv]
  unfold bacc
  rw [List.foldl_append]
  simp only [List.foldl_cons, List.foldl_nil]
  have hx : l[4 * k + j].toNat < 4294967296 := Nat.lt_of_lt_of_le l[4 * k + j].toNat_lt (by decide)
  rw [ofNat_toNat (Nat.or_lt_two_pow (n := 32) (Nat.mod_lt _ (by omega)) hx)]
  rw [show ∀ a : Nat, ((a : Int) * 256) % 4294967296 = ((a * 256 % 4294967296 : Nat) : Int) from fun a => by omega, show ((l[4 * k + j].toNat : Int) % 4294967296) = (l[4 * k + j].toNat : Int) from by omega]
  exact u32_or_nat _ _ (Nat.mod_lt _ (by omega)) hx
theorem m_shr (x : UInt32) (n : Nat) (d : Int) (hd : d = ((2 ^ n : Nat) : Int)) : ((x.toNat : Int) / d) = ((shrN x n).toNat : Int) := by
  rw [shrN_toNat, hd, Int.natCast_ediv]
theorem words_sum (a b c d : UInt32) :
    (((a.toNat : Int) + bits .xor .u32 (bits .xor .u32 ((rotr b 7).toNat : Int) ((rotr b 18).toNat : Int)) ((b.toNat : Int) / 8) + (c.toNat : Int) +
      bits .xor .u32 (bits .xor .u32 ((rotr d 17).toNat : Int) ((rotr d 19).toNat : Int)) ((d.toNat : Int) / 1024)) % 4294967296) =
    ((a + (rotr b 7 ^^^ rotr b 18 ^^^ shrN b 3) + c + (rotr d 17 ^^^ rotr d 19 ^^^ shrN d 10)).toNat : Int) := by
  rw [m_shr b 3 8 (by decide), m_shr d 10 1024 (by decide)]
  simp only [m_xor, UInt32.toNat_add]
  omega
theorem warr_size (l : List UInt8) (k : Nat) (h : k ≤ 64) : (warr l k).size = 64 := by
  unfold warr
  simp [ucells, wlist_length]
  omega
theorem ucells_one (l : List UInt32) : ∀ u ∈ ucells l, u.oneCell' = true := fun u hu => by
  obtain ⟨x, -, rfl⟩ := List.mem_map.1 hu
  rfl
theorem warr_full (l : List UInt8) : warr l 64 = (ucells (wlist l 64)).toArray := by
  unfold warr
  simp
theorem wnext_low (l : List UInt8) (k : Nat) (h : k < 16) : wnext l (wlist l k) = bacc ((l.drop (4 * k)).take 4) := by
  unfold wnext
  rw [wlist_length, if_pos h]
theorem ucells_get (xs : List UInt32) (j : Nat) (h : j < xs.length) : (ucells xs)[j]? = some (.int .u32 ((xs.getD j 0).toNat : Int)) := by
  unfold ucells
  rw [List.getElem?_map, List.getElem?_eq_getElem h]
  simp [ucell, h]
theorem wget (l : List UInt8) (k j : Nat) (v : Value) (hj : j < k) : (hole (ucells (wlist l k)) v k)[j]? = some (.int .u32 (((wlist l k).getD j 0).toNat : Int)) := by
  rw [hole_low _ _ _ _ (by rw [ucells_length, wlist_length]) hj]
  exact ucells_get _ _ (by rw [wlist_length]; exact hj)
theorem RowAt.new2 (w : World) (o : Obj) (cs : Array Value) (T : TypeId) : RowAt ((w.alloc o).alloc (.cells cs T)) (w.heap.size + 1) cs T := by
  have h := RowAt.new (w.alloc o) cs T
  have e : (w.alloc o).heap.size = w.heap.size + 1 := by show (w.heap.push o).size = _; simp
  rwa [e] at h

set_option maxRecDepth 100000 in
set_option maxHeartbeats 1000000 in
theorem words_any (v : Value) (l : List UInt8) (w : World) (p : Nat → Prop) (h : BAt w p v l) (hl : l.length = 64) :
    Calls Tryd.prog 87 #[v] w fun e w' => e = .returned (.agg (warr l 64)) ∧ Keeps (fun _ => False) w w' := by
  obtain ⟨b, off, c, rfl, hc, hm, hb, hcell⟩ := h.get (by omega)
  rw [hl] at hc ⊢
  simp only [maxLen] at hm
  have HL := Lib.hid hl
  go_enter Tryd.func87, Tryd.ntmps87
  clear hl
  go_wp2
  go_loopw [9] (fun u9 wr => ∃ k : Nat, k ≤ 64 ∧ u9 = .int .i64 k ∧ RowAt wr w.heap.size (warr l 0) 120 ∧ RowAt wr (w.heap.size + 1) (warr l k) 120 ∧ Keeps (fun _ => False) w wr) (fun u9 _ => 64 - (intOf u9).toNat)
  case atStart => exact ⟨0, by omega, rfl, ((RowAt.new w _ _).alloc _).eq rfl, (RowAt.new2 w _ _ _).eq rfl, ((Keeps.refl _ w).alloc _).alloc _⟩
  case round =>
    obtain ⟨k, hk, rfl, h0, h1, hkw⟩ := hrel
    by_cases hlt : k < 64
    · rw [warr_hole l k hlt] at h1
      have hxl : (ucells (wlist l k)).length = k := by rw [ucells_length, wlist_length]
      have HX := Lib.hid hxl
      clear hxl
      by_cases h16 : k < 16
      · go_wp2
        go_loopw [22] (fun u22 wq => ∃ j : Nat, j ≤ 4 ∧ u22 = .int .i64 j ∧ RowAt wq w.heap.size (warr l 0) 120 ∧ RowAt wq (w.heap.size + 1) (hole (ucells (wlist l k)) (ucell (bacc ((l.drop (4 * k)).take j))) k) 120 ∧ Keeps (fun _ => False) w wq) (fun u22 _ => 4 - (intOf u22).toNat)
        case atStart => exact ⟨0, by omega, rfl, h0, h1.eq rfl, hkw⟩
        case round =>
          obtain ⟨j, hj, rfl, h0', h1', hkq⟩ := hrel
          by_cases hjt : j < 4
          · have g1 := hkq.cell (hcell (4 * k + j) (by have := HL.out; omega)) (fun h => h)
            rw [← Nat.add_assoc] at g1
            have g2 : wr.cell? ⟨w.heap.size + 1, k, none⟩ = some (.int .u32 ((bacc ((l.drop (4 * k)).take j)).toNat : Int)) := (h1'.cell k).trans (hole_get _ _ k HX.out)
            have g3 := h1'.frozen k
            have BS := Lib.hid (bacc_step l k j (by have := HL.out; omega) hjt)
            clear hcell
            go_wp2
            go_roundw
            case rel => exact ⟨j + 1, by omega, by go_num, h0'.setOther _ _ (by simp), (h1'.set k _).eq (by rw [BS.out]; exact hole_set _ _ _ k HX.out), hkq.setCell _ _ (.inr (by simp))⟩
            case measure => simp [intOf]; omega
          · obtain rfl : j = 4 := by omega
            go_wp2
            go_roundw
            case rel => exact ⟨k + 1, by omega, by go_num, h0', h1'.eq (by rw [← wnext_low l k h16]; exact hole_warr l k hlt), hkq⟩
            case measure => simp [intOf]; omega
      · have h16' : (16 : Int) ≤ (k : Int) := by omega
        obtain ⟨e16, H16⟩ : ∃ e, (wlist l k).getD (k - 16) 0 = e := ⟨_, rfl⟩
        obtain ⟨e15, H15⟩ : ∃ e, (wlist l k).getD (k - 15) 0 = e := ⟨_, rfl⟩
        obtain ⟨e7, H7⟩ : ∃ e, (wlist l k).getD (k - 7) 0 = e := ⟨_, rfl⟩
        obtain ⟨e2, H2⟩ : ∃ e, (wlist l k).getD (k - 2) 0 = e := ⟨_, rfl⟩
        have c16 := (h1.cell (k - 16)).trans (wget l k (k - 16) _ (by omega))
        have c15 := (h1.cell (k - 15)).trans (wget l k (k - 15) _ (by omega))
        have c7 := (h1.cell (k - 7)).trans (wget l k (k - 7) _ (by omega))
        have c2 := (h1.cell (k - 2)).trans (wget l k (k - 2) _ (by omega))
        rw [H16] at c16
        rw [H15] at c15
        rw [H7] at c7
        rw [H2] at c2
        have hw : wnext l (wlist l k) = e16 + (rotr e15 7 ^^^ rotr e15 18 ^^^ shrN e15 3) + e7 + (rotr e2 17 ^^^ rotr e2 19 ^^^ shrN e2 10) := by
          unfold wnext
          rw [wlist_length, if_neg h16, H16, H15, H7, H2]
        have W := Lib.hid hw
        have ck := (h1.cell k).trans (hole_get _ _ k HX.out)
        have g3 := h1.frozen k
        clear H16 H15 H7 H2 hcell hw
        go_wp2
        go_quiet (fail)
        go_wp2
        refine region_draws_tail 29 (by kernel_rfl) (by kernel_rfl) ?_
        simp only [List.take_succ_cons, List.take_zero, List.drop_succ_cons, List.drop_zero]
        repeat (go_big_quiet_step (first | (with_reducible exact quiet_same2 (right_any _ _ _ (by decide) (by decide))) | (with_reducible exact quiet_same (right_any _ _ _ (by decide) (by decide)))))
        refine wpQuiet_nil ?_
        rintro _ ⟨nq, rfl⟩
        go_wp2
        go_roundw
        case rel => exact ⟨k + 1, by omega, by go_num, (h0.drewN _).setOther _ _ (by simp), ((h1.drewN _).set k _).eq (by rw [words_sum, ← W.out]; exact (hole_set _ _ _ k HX.out).trans (hole_warr l k hlt)), (hkw.drewN _).setCell _ _ (.inr (by simp))⟩
        case measure => simp [intOf]; omega
    · obtain rfl : k = 64 := by omega
      have hs0 : (warr l 0).size = 64 := warr_size l 0 (by omega)
      have hs1 : (warr l 64).size = 64 := warr_size l 64 (by omega)
      have hone : (warr l 64).all (·.oneCell') = true := by rw [warr_full]; exact all_oneCell_toArray (ucells_one _)
      obtain ⟨W, hW⟩ : ∃ W, warr l 64 = W := ⟨_, rfl⟩
      have HW := Lib.hid hW
      rw [hW] at h1 hs1 hone
      clear hW
      generalize warr l 0 = W0 at h0 hs0
      clear hcell
      go_wp2_with (first | (refine wpList_load_whole rfl 120 (.tmp 3) rfl _ rfl _ W 64 102 h1 (by kernel_rfl) hs1 (by kernel_rfl) ?_) | ((refine wpList_store_whole rfl 120 (.tmp 2) (.tmp 74) rfl _ W rfl rfl _ W0 64 h0 hs1 hs0 (by kernel_rfl) hone (fun w' hr hk' => ?_))))
      (try simp only [Exit.inBlock, Exit.then])
      refine ret_whole 2 120 (by kernel_rfl) w.heap.size _ W 64 102 rfl hr (by kernel_rfl) hs1 (by kernel_rfl) rfl ?_
      exact ⟨by rw [HW.out], hkw.own hk' (Nat.le_refl _)⟩

end Go.Proofs.YtekaoknpjpbjgaaDoor

/-! A block into a state. -/
namespace Go.Proofs.YtekaoknpjpbjgaaDoor
set_option linter.unusedVariables false
set_option linter.unusedSimpArgs false
open Go.RowKit

structure S8 where
  a : UInt32
  b : UInt32
  c : UInt32
  d : UInt32
  e : UInt32
  f : UInt32
  g : UInt32
  h : UInt32
def srow (s : S8) : Array Value := #[ucell s.a, ucell s.b, ucell s.c, ucell s.d, ucell s.e, ucell s.f, ucell s.g, ucell s.h]
/-- The published numbers. -/
def kList : List UInt32 := [0x428a2f98, 0x71374491, 0xb5c0fbcf, 0xe9b5dba5, 0x3956c25b, 0x59f111f1, 0x923f82a4, 0xab1c5ed5, 0xd807aa98, 0x12835b01, 0x243185be, 0x550c7dc3, 0x72be5d74, 0x80deb1fe, 0x9bdc06a7, 0xc19bf174, 0xe49b69c1, 0xefbe4786, 0x0fc19dc6, 0x240ca1cc, 0x2de92c6f, 0x4a7484aa, 0x5cb0a9dc, 0x76f988da, 0x983e5152, 0xa831c66d, 0xb00327c8, 0xbf597fc7, 0xc6e00bf3, 0xd5a79147, 0x06ca6351, 0x14292967, 0x27b70a85, 0x2e1b2138, 0x4d2c6dfc, 0x53380d13, 0x650a7354, 0x766a0abb, 0x81c2c92e, 0x92722c85, 0xa2bfe8a1, 0xa81a664b, 0xc24b8b70, 0xc76c51a3, 0xd192e819, 0xd6990624, 0xf40e3585, 0x106aa070, 0x19a4c116, 0x1e376c08, 0x2748774c, 0x34b0bcb5, 0x391c0cb3, 0x4ed8aa4a, 0x5b9cca4f, 0x682e6ff3, 0x748f82ee, 0x78a5636f, 0x84c87814, 0x8cc70208, 0x90befffa, 0xa4506ceb, 0xbef9a3f7, 0xc67178f2, 0x6a09e667, 0xbb67ae85, 0x3c6ef372, 0xa54ff53a, 0x510e527f, 0x9b05688c, 0x1f83d9ab, 0x5be0cd19]
def kAt (k : Nat) : UInt32 := kList.getD k 0
/-- The program's table of numbers stands. -/
def Table (w : World) : Prop := ∀ k, k < 72 → w.cell? ⟨0, k, none⟩ = some (.int .u32 ((kAt k).toNat : Int))
theorem Table.keeps {w w' : World} (h : Table w) (hk : Keeps (fun _ => False) w w') : Table w' := fun k h1 => hk.cell (h k h1) (fun h => h)
def tsum (s : S8) (k w : UInt32) : UInt32 := s.h + (rotr s.e 6 ^^^ rotr s.e 11 ^^^ rotr s.e 25) + ((s.e &&& s.f) ||| (~~~s.e &&& s.g)) + k + w
def usum (s : S8) : UInt32 := (rotr s.a 2 ^^^ rotr s.a 13 ^^^ rotr s.a 22) + ((s.a &&& (s.b ||| s.c)) ||| (s.b &&& s.c))
def rnd (ws : List UInt32) (s : S8) (i : Nat) : S8 :=
  ⟨tsum s (kAt i) (ws.getD i 0) + usum s, s.a, s.b, s.c, s.d + tsum s (kAt i) (ws.getD i 0), s.e, s.f, s.g⟩
def rnds (ws : List UInt32) (s : S8) : Nat → S8
  | 0 => s
  | k + 1 => rnd ws (rnds ws s k) k
def addS (s : S8) (l : List UInt8) : S8 :=
  let r := rnds (wlist l 64) s 64
  ⟨r.a + s.a, r.b + s.b, r.c + s.c, r.d + s.d, r.e + s.e, r.f + s.f, r.g + s.g, r.h + s.h⟩
def mix (s r : S8) (k : Nat) : Array Value :=
  #[ucell (if 0 < k then r.a + s.a else r.a), ucell (if 1 < k then r.b + s.b else r.b), ucell (if 2 < k then r.c + s.c else r.c), ucell (if 3 < k then r.d + s.d else r.d),
    ucell (if 4 < k then r.e + s.e else r.e), ucell (if 5 < k then r.f + s.f else r.f), ucell (if 6 < k then r.g + s.g else r.g), ucell (if 7 < k then r.h + s.h else r.h)]
theorem mix_step (s r : S8) (k : Nat) (hk : k < 8) : ∃ x y : UInt32, (srow s)[k]? = some (.int .u32 (y.toNat : Int)) ∧ (mix s r k)[k]? = some (.int .u32 (x.toNat : Int)) ∧
    (mix s r k).setIfInBounds k (.int .u32 ((x + y).toNat : Int)) = mix s r (k + 1) := by
  match k, hk with
  | 0, _ => exact ⟨_, _, rfl, rfl, rfl⟩
  | 1, _ => exact ⟨_, _, rfl, rfl, rfl⟩
  | 2, _ => exact ⟨_, _, rfl, rfl, rfl⟩
  | 3, _ => exact ⟨_, _, rfl, rfl, rfl⟩
  | 4, _ => exact ⟨_, _, rfl, rfl, rfl⟩
  | 5, _ => exact ⟨_, _, rfl, rfl, rfl⟩
  | 6, _ => exact ⟨_, _, rfl, rfl, rfl⟩
  | 7, _ => exact ⟨_, _, rfl, rfl, rfl⟩
theorem mix_full (s : S8) (l : List UInt8) : mix s (rnds (wlist l 64) s 64) 8 = srow (addS s l) := rfl
theorem mix_none (s r : S8) : mix s r 0 = srow r := rfl
theorem Keeps.alloc3 (w : World) (x y z : Obj) : Keeps (fun _ => False) w (((w.alloc x).alloc y).alloc z) := (((Keeps.refl _ w).alloc _).alloc _).alloc _
theorem srow_one (s : S8) : (srow s).all (·.oneCell') = true := by
  unfold srow
  exact all_oneCell_toArray (by intro v hv; simp only [List.mem_cons, List.not_mem_nil, or_false] at hv; rcases hv with rfl | rfl | rfl | rfl | rfl | rfl | rfl | rfl <;> rfl)

theorem m_not (x : UInt32) : bits .xor .u32 IntKind.u32.max (x.toNat : Int) = ((~~~x).toNat : Int) := by
  rw [show IntKind.u32.max = (((4294967295 : UInt32).toNat : Nat) : Int) from rfl, m_xor, show (4294967295 : UInt32) ^^^ x = ~~~x from UInt32.eq_of_toBitVec_eq (by rw [UInt32.toBitVec_xor, UInt32.toBitVec_not]; exact BitVec.allOnes_xor)]
theorem tsum_eq (a b c d e f g h y x : UInt32) :
    (((h.toNat : Int) + bits .xor .u32 (bits .xor .u32 ((rotr e 6).toNat : Int) ((rotr e 11).toNat : Int)) ((rotr e 25).toNat : Int) +
      bits .or .u32 (bits .and .u32 (e.toNat : Int) (f.toNat : Int)) (bits .and .u32 (bits .xor .u32 IntKind.u32.max (e.toNat : Int)) (g.toNat : Int)) + (y.toNat : Int) + (x.toNat : Int)) % 4294967296) =
    ((tsum ⟨a, b, c, d, e, f, g, h⟩ y x).toNat : Int) := by
  unfold tsum
  simp only [m_not, m_xor, m_and, m_or, UInt32.toNat_add]
  omega
theorem usum_eq (a b c d e f g h : UInt32) :
    ((bits .xor .u32 (bits .xor .u32 ((rotr a 2).toNat : Int) ((rotr a 13).toNat : Int)) ((rotr a 22).toNat : Int) +
      bits .or .u32 (bits .and .u32 (a.toNat : Int) (bits .or .u32 (b.toNat : Int) (c.toNat : Int))) (bits .and .u32 (b.toNat : Int) (c.toNat : Int))) % 4294967296) =
    ((usum ⟨a, b, c, d, e, f, g, h⟩).toNat : Int) := by
  unfold usum
  simp only [m_xor, m_and, m_or, UInt32.toNat_add]
  omega
theorem m_plus (x y : UInt32) : (((x.toNat : Int) + (y.toNat : Int)) % 4294967296) = ((x + y).toNat : Int) := by
  rw [UInt32.toNat_add]; omega
theorem m_plus2 {T U : Int} {x y : UInt32} (h1 : T % 4294967296 = (x.toNat : Int)) (h2 : U % 4294967296 = (y.toNat : Int)) : (T + U) % 4294967296 = ((x + y).toNat : Int) := by
  rw [UInt32.toNat_add]; omega
theorem m_plus1 {U : Int} {x y : UInt32} (h2 : U % 4294967296 = (y.toNat : Int)) : ((x.toNat : Int) + U) % 4294967296 = ((x + y).toNat : Int) := by
  rw [UInt32.toNat_add]; omega
theorem RowAt.drewN' {w w' : World} {b T n : Nat} {cs : Array Value} (h : RowAt w b cs T) (e : w.drewN n = w') : RowAt w' b cs T := e ▸ h.drewN n
theorem Keeps.drewN' {S : Nat → Prop} {a w w' : World} {n : Nat} (h : Keeps S a w) (e : w.drewN n = w') : Keeps S a w' := e ▸ h.drewN n
theorem RowAt.sub {w : World} {g T : Nat} {cs : Array Value} (h : RowAt w g cs T) (o : Nat) (l : List Value) (hl : ∀ j v, l[j]? = some v → cs[o + j]? = some v) :
    ∀ j v, l[j]? = some v → w.cell? ((⟨g, o, none⟩ : Addr).add j) = some v := fun j v hv => by rw [addr_add, h.cell]; exact hl j v hv
theorem size_alloc (w : World) (x : Obj) : (w.alloc x).heap.size = w.heap.size + 1 := by show (w.heap.push x).size = _; simp
theorem RowAt.new3 (w : World) (x y : Obj) (cs : Array Value) (T : TypeId) : RowAt (((w.alloc x).alloc y).alloc (.cells cs T)) (w.heap.size + 1 + 1) cs T := by
  have h := RowAt.new ((w.alloc x).alloc y) cs T
  rwa [size_alloc, size_alloc] at h
def row0 : Array Value := #[.int .u32 0, .int .u32 0, .int .u32 0, .int .u32 0, .int .u32 0, .int .u32 0, .int .u32 0, .int .u32 0]
attribute [local irreducible] warr

theorem seven (a b c d e f g h : UInt32) (j : Nat) (v : Value) (hj : [ucell a, ucell b, ucell c, ucell d, ucell e, ucell f, ucell g][j]? = some v) :
    (srow ⟨a, b, c, d, e, f, g, h⟩)[j]? = some v := by
  match j, hj with
  | 0, hj => exact hj
  | 1, hj => exact hj
  | 2, hj => exact hj
  | 3, hj => exact hj
  | 4, hj => exact hj
  | 5, hj => exact hj
  | 6, hj => exact hj
theorem seven_one (a b c d e f g : UInt32) : ∀ v ∈ [ucell a, ucell b, ucell c, ucell d, ucell e, ucell f, ucell g], v.oneCell' = true := by
  intro v hv; simp only [List.mem_cons, List.not_mem_nil, or_false] at hv; rcases hv with rfl | rfl | rfl | rfl | rfl | rfl | rfl <;> rfl

set_option maxRecDepth 100000 in
set_option maxHeartbeats 2000000 in
theorem add_any (s : S8) (v : Value) (l : List UInt8) (w : World) (p : Nat → Prop) (h : BAt w p v l) (hl : l.length = 64) (hT : Table w) :
    Calls Tryd.prog 75 #[.agg (srow s), v] w fun e w' => e = .returned (.agg (srow (addS s l))) ∧ Keeps (fun _ => False) w w' := by
  obtain ⟨b, off, c, rfl, hc, hm, hb, hcell⟩ := h.get (by omega)
  have HB : BAt w (· < w.heap.size) (.slice (some ⟨b, off, none⟩) l.length c) l := (SAt.lt h).mono fun _ hx => hx.2
  rw [hl] at HB ⊢
  have HL := Lib.hid hl
  clear h hcell hc hm hb hl
  go_enter Tryd.func75, Tryd.ntmps75
  go_wp2_with (first | (refine wpList_load_whole rfl 104 (.tmp 2) rfl _ rfl _ (srow s) 8 102 (RowAt.alloc (RowAt.new _ _ _) _) (by kernel_rfl) rfl (by kernel_rfl) ?_) | (refine wpList_store_whole rfl 104 (.tmp 5) (.tmp 13) rfl _ (srow s) rfl rfl _ row0 8 (RowAt.new3 _ _ _ _ _) rfl rfl (by kernel_rfl) (srow_one s) (fun w1 h1 hk1 => ?_)))
  have hkA : Keeps (fun _ => False) w w1 := (Keeps.alloc3 w _ _ _).own hk1 (by omega)
  have r0 : RowAt w1 w.heap.size (srow s) 104 := (((RowAt.new w _ _).alloc _).alloc _).keeps hk1 (by omega)
  have r1 : RowAt w1 (w.heap.size + 1) row0 104 := ((RowAt.new2 w _ _ _).alloc _).keeps hk1 (by omega)
  refine (words_any _ l _ (· < w.heap.size) (HB.keeps hkA (fun _ _ h => h)) HL.out).mono ?_
  rintro e w2 ⟨rfl, hk2⟩
  replace r0 := r0.keeps hk2 (fun h => h)
  replace r1 := r1.keeps hk2 (fun h => h)
  replace h1 := h1.keeps hk2 (fun h => h)
  replace hkA : Keeps (fun _ => False) w w2 := hkA.trans hk2 (fun _ _ h => h)
  obtain ⟨W, hW⟩ : ∃ W, warr l 64 = W := ⟨_, rfl⟩
  have hWs : W.size = 64 := by rw [← hW]; exact warr_size l 64 (by omega)
  have hWg : ∀ k, k < 64 → W[k]? = some (.int .u32 (((wlist l 64).getD k 0).toNat : Int)) := fun k hk => by
    rw [← hW, warr_full]
    simpa using ucells_get (wlist l 64) k (by rw [wlist_length]; exact hk)
  rw [hW]
  clear hk1 hk2 hW
  go_wp2
  go_loopw [16] (fun u16 wr => ∃ k : Nat, k ≤ 64 ∧ u16 = .int .i64 k ∧ RowAt wr w.heap.size (srow s) 104 ∧ RowAt wr (w.heap.size + 1) row0 104 ∧ RowAt wr (w.heap.size + 1 + 1) (srow (rnds (wlist l 64) s k)) 104 ∧ Keeps (fun _ => False) w wr) (fun u16 _ => 64 - (intOf u16).toNat)
  case atStart => exact ⟨0, by omega, rfl, r0, r1, h1, hkA⟩
  case round =>
    obtain ⟨k, hk, rfl, h0, hz, hr, hkw⟩ := hrel
    by_cases hlt : k < 64
    · have hg := hWg k hlt
      obtain ⟨R, hR⟩ : ∃ R, rnds (wlist l 64) s k = R := ⟨_, rfl⟩
      have hN : rnds (wlist l 64) s (k + 1) = rnd (wlist l 64) R k := by rw [← hR]; rfl
      rw [hR] at hr
      obtain ⟨x, hx⟩ : ∃ x, (wlist l 64).getD k 0 = x := ⟨_, rfl⟩
      have hc := (hT.keeps hkw) k (by omega)
      obtain ⟨y, hy⟩ : ∃ y, kAt k = y := ⟨_, rfl⟩
      have hM : rnd (wlist l 64) R k = ⟨tsum R y x + usum R, R.a, R.b, R.c, R.d + tsum R y x, R.e, R.f, R.g⟩ := by unfold rnd; rw [hx, hy]
      rw [hx] at hg
      rw [hy] at hc
      have HN := Lib.hid (hN.trans hM)
      obtain ⟨ra, rb, rc, rd, re, rf, rg, rh⟩ := R
      have q0 := hr.cell 0
      have q1 := hr.cell 1
      have q2 := hr.cell 2
      have q3 := hr.cell 3
      have q4 := hr.cell 4
      have q5 := hr.cell 5
      have q6 := hr.cell 6
      have q7 := hr.cell 7
      simp only [srow, ucell, List.getElem?_toArray, List.getElem?_cons_zero, List.getElem?_cons_succ] at q0 q1 q2 q3 q4 q5 q6 q7
      have hI := run_index_row (P := Tryd.prog) (t := 120) (e := 102) (n := 64) (d := .int .u32) (by kernel_rfl) hlt (by kernel_rfl) rfl (by kernel_rfl) hg
      clear hN hM hx hy hWg hR hg
      go_wp2
      go_quiet (fail)
      go_wp2
      refine region_draws_tail 28 (by kernel_rfl) (by kernel_rfl) ?_
      simp only [List.take_succ_cons, List.take_zero, List.drop_succ_cons, List.drop_zero]
      repeat (go_big_quiet_step (first | (with_reducible exact quiet_same2 (right_any _ _ _ (by decide) (by decide))) | (with_reducible exact quiet_same (right_any _ _ _ (by decide) (by decide)))))
      refine wpQuiet_nil ?_
      rintro _ ⟨nq, rfl⟩
      go_wp2
      refine region_draws_tail 22 (by kernel_rfl) (by kernel_rfl) ?_
      simp only [List.take_succ_cons, List.take_zero, List.drop_succ_cons, List.drop_zero]
      repeat (go_big_quiet_step (first | (with_reducible exact quiet_same2 (right_any _ _ _ (by decide) (by decide))) | (with_reducible exact quiet_same (right_any _ _ _ (by decide) (by decide)))))
      refine wpQuiet_nil ?_
      rintro _ ⟨nq, rfl⟩
      go_wp2
      refine region_draws_tail 2 (by kernel_rfl) (by kernel_rfl) ?_
      simp only [List.take_succ_cons, List.take_zero, List.drop_succ_cons, List.drop_zero]
      repeat (go_big_quiet_step (fail))
      refine wpQuiet_nil ?_
      rintro _ ⟨nq, rfl⟩
      refine wpList_copy_whole rfl (.tmp 74) (.tmp 75) 123 123 rfl 102 (by kernel_rfl) (by kernel_rfl) (w.heap.size + 1 + 1) 1 7 7 ⟨w.heap.size + 1 + 1, 0, none⟩ 7 8 rfl rfl (srow ⟨ra, rb, rc, rd, re, rf, rg, rh⟩) _ hr [ucell ra, ucell rb, ucell rc, ucell rd, ucell re, ucell rf, ucell rg] rfl (hr.sub 0 _ (by intro j v hj; rw [Nat.zero_add]; exact seven _ _ _ _ _ _ _ _ j v hj)) (Nat.le_refl 8) (seven_one _ _ _ _ _ _ _) (fun w3 h3 hk3 => ?_)
      replace hk3 : Keeps (· = w.heap.size + 1 + 1) wr w3 := Keeps.trans (S := (· = w.heap.size + 1 + 1)) (by repeat (first | with_reducible exact Keeps.refl _ _ | with_reducible refine Keeps.drewN ?_ _)) hk3 (fun _ _ h => h)
      have h3' : RowAt w3 (w.heap.size + 1 + 1) #[ucell ra, ucell ra, ucell rb, ucell rc, ucell rd, ucell re, ucell rf, ucell rg] 104 := h3.eq rfl
      have h0' : RowAt w3 w.heap.size (srow s) 104 := h0.keeps hk3 (show ¬ (w.heap.size = w.heap.size + 1 + 1) by omega)
      have hz' : RowAt w3 (w.heap.size + 1) row0 104 := hz.keeps hk3 (show ¬ (w.heap.size + 1 = w.heap.size + 1 + 1) by omega)
      have hkw' : Keeps (fun _ => False) w w3 := hkw.own hk3 (by omega)
      have p0 : w3.cell? ⟨w.heap.size + 1 + 1, 0, none⟩ = some (.int .u32 (ra.toNat : Int)) := h3'.cell 0
      have p4 : w3.cell? ⟨w.heap.size + 1 + 1, 4, none⟩ = some (.int .u32 (rd.toNat : Int)) := h3'.cell 4
      have f0 := h3'.frozen 0
      have f4 := h3'.frozen 4
      clear q0 q1 q2 q3 q4 q5 q6 q7 hc hI h3
      go_wp2
      go_roundw
      case rel =>
        refine ⟨k + 1, by omega, by go_num, (h0'.setOther _ _ (by simp; omega)).setOther _ _ (by simp; omega), (hz'.setOther _ _ (by simp)).setOther _ _ (by simp), ((h3'.set 0 _).set 4 _).eq ?_, (hkw'.setCell _ _ (.inr (by simp; omega))).setCell _ _ (.inr (by simp; omega))⟩
        rw [m_plus2 (tsum_eq ra rb rc rd re rf rg rh y x) (usum_eq ra rb rc rd re rf rg rh), m_plus1 (tsum_eq ra rb rc rd re rf rg rh y x), HN.out]
        rfl
      case measure => simp [intOf]; omega
    · obtain rfl : k = 64 := by omega
      obtain ⟨R, hR⟩ : ∃ R, rnds (wlist l 64) s 64 = R := ⟨_, rfl⟩
      have hF : mix s R 8 = srow (addS s l) := by rw [← hR]; rfl
      rw [hR] at hr
      have HF := Lib.hid hF
      clear hF hR hWg hWs
      go_wp2
      go_loopw [87] (fun u87 wr => ∃ k : Nat, k ≤ 8 ∧ u87 = .int .i64 k ∧ RowAt wr w.heap.size (srow s) 104 ∧ RowAt wr (w.heap.size + 1) row0 104 ∧ RowAt wr (w.heap.size + 1 + 1) (mix s R k) 104 ∧ Keeps (fun _ => False) w wr) (fun u87 _ => 8 - (intOf u87).toNat)
      case atStart => exact ⟨0, by omega, rfl, h0, hz, hr, hkw⟩
      case round =>
        obtain ⟨k, hk, rfl, h0, hz, hr, hkw⟩ := hrel
        by_cases hlt : k < 8
        · obtain ⟨x, y, g1, g2, g3⟩ := mix_step s R k hlt
          have c1 := (h0.cell k).trans g1
          have c2 := (hr.cell k).trans g2
          have f2 := hr.frozen k
          have G := Lib.hid g3
          clear g1 g2 g3
          go_wp2
          refine region_draws_tail 8 (by kernel_rfl) (by kernel_rfl) ?_
          simp only [List.take_succ_cons, List.take_zero, List.drop_succ_cons, List.drop_zero]
          repeat (go_big_quiet_step (fail))
          refine wpQuiet_nil ?_
          rintro _ ⟨nq, rfl⟩
          go_wp2
          go_roundw
          case rel => exact ⟨k + 1, by omega, by go_num, (h0.drewN _).setOther _ _ (by simp; omega), (hz.drewN _).setOther _ _ (by simp), ((hr.drewN _).set k _).eq (by rw [m_plus]; exact G.out), (hkw.drewN _).setCell _ _ (.inr (by simp; omega))⟩
          case measure => simp [intOf]; omega
        · obtain rfl : k = 8 := by omega
          rw [HF.out] at hr
          go_wp2_with (first | (refine wpList_load_whole rfl 104 (.tmp 5) rfl _ rfl _ (srow (addS s l)) 8 102 hr (by kernel_rfl) rfl (by kernel_rfl) ?_) | (refine wpList_store_whole rfl 104 (.tmp 4) (.tmp 99) rfl _ (srow (addS s l)) rfl rfl _ row0 8 hz rfl rfl (by kernel_rfl) (srow_one _) (fun w' hr' hk' => ?_)))
          (try simp only [Exit.inBlock, Exit.then])
          refine ret_whole 4 104 (by kernel_rfl) (w.heap.size + 1) _ (srow (addS s l)) 8 102 rfl hr' (by kernel_rfl) rfl (by kernel_rfl) rfl ?_
          exact ⟨rfl, hkw.own hk' (by omega)⟩

end Go.Proofs.YtekaoknpjpbjgaaDoor
