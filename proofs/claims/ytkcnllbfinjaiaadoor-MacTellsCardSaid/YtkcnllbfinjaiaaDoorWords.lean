/- The words of a block. -/
import Derived.Test.YtkcnllbfinjaiaaDoorRot
import Derived.Test.YtkcnllbfinjaiaaDoorTail
import Derived.Test.YtkcnllbfinjaiaaDoorWhole
namespace Go.Proofs.YtkcnllbfinjaiaaDoor
open Go.RowKit

def ucell (x : UInt32) : Value := .int .u32 x.toNat
def ucells (l : List UInt32) : List Value := l.map ucell
theorem ucells_length (l : List UInt32) : (ucells l).length = l.length := by simp [ucells]
/-- Bytes as one number, the first the highest. -/
def bacc (bs : List UInt8) : UInt32 := bs.foldl (fun a x => UInt32.ofNat ((a.toNat * 256 % 4294967296) ||| x.toNat)) 0
def wnext (l : List UInt8) (ws : List UInt32) : UInt32 :=
  if ws.length < 16 then bacc ((l.drop (4 * ws.length)).take 4) else
    ws.getD (ws.length - 16) 0 + (rotr (ws.getD (ws.length - 15) 0) 7 ^^^ rotr (ws.getD (ws.length - 15) 0) 18 ^^^ shrN (ws.getD (ws.length - 15) 0) 3) + ws.getD (ws.length - 7) 0 +
      (rotr (ws.getD (ws.length - 2) 0) 17 ^^^ rotr (ws.getD (ws.length - 2) 0) 19 ^^^ shrN (ws.getD (ws.length - 2) 0) 10)
/-- The first k words of the block l. -/
def wlist (l : List UInt8) : Nat → List UInt32
  | 0 => []
  | k + 1 => wlist l k ++ [wnext l (wlist l k)]
theorem wlist_length (l : List UInt8) (k : Nat) : (wlist l k).length = k := by
  induction k with
  | zero => rfl
  | succ k ih => simp [wlist, ih]
/-- A row of 64 with k words, then v, then zeros. -/
def hole (xs : List Value) (v : Value) (k : Nat) : Array Value := (xs ++ v :: List.replicate (63 - k) (Value.int .u32 0)).toArray
theorem hole_set (xs : List Value) (u v : Value) (k : Nat) (h : xs.length = k) : (hole xs u k).setIfInBounds k v = hole xs v k := by
  subst h
  unfold hole
  rw [List.setIfInBounds_toArray]
  congr 1
  rw [List.set_append_right _ _ (Nat.le_refl _), Nat.sub_self]
  rfl
theorem hole_get (xs : List Value) (v : Value) (k : Nat) (h : xs.length = k) : (hole xs v k)[k]? = some v := by
  subst h
  unfold hole
  simp
theorem hole_low (xs : List Value) (v : Value) (k j : Nat) (h : xs.length = k) (hj : j < k) : (hole xs v k)[j]? = xs[j]? := by
  unfold hole
  rw [List.getElem?_toArray, List.getElem?_append_left (by omega)]
def warr (l : List UInt8) (k : Nat) : Array Value := (ucells (wlist l k) ++ List.replicate (64 - k) (Value.int .u32 0)).toArray
theorem warr_hole (l : List UInt8) (k : Nat) (h : k < 64) : warr l k = hole (ucells (wlist l k)) (Value.int .u32 0) k := by
  unfold warr hole
  rw [show 64 - k = (63 - k) + 1 by omega, List.replicate_succ]
theorem hole_warr (l : List UInt8) (k : Nat) (h : k < 64) : hole (ucells (wlist l k)) (ucell (wnext l (wlist l k))) k = warr l (k + 1) := by
  unfold warr hole
  rw [show 64 - (k + 1) = 63 - k by omega]
  simp [wlist, ucells]

theorem bacc_step (l : List UInt8) (k j : Nat) (h : 4 * k + j < l.length) (hj : j < 4) :
    bits .or .u32 (((bacc ((l.drop (4 * k)).take j)).toNat : Int) * 256 % 4294967296) ((l[4 * k + j].toNat : Int) % 4294967296) = ((bacc ((l.drop (4 * k)).take (j + 1))).toNat : Int) := by
  have hd : j < (l.drop (4 * k)).length := by rw [List.length_drop]; omega
  have hv : (l.drop (4 * k))[j] = l[4 * k + j] := by rw [List.getElem_drop]
  rw [List.take_succ_eq_append_getElem hd, hv]
  unfold bacc
  rw [List.foldl_append]
  simp only [List.foldl_cons, List.foldl_nil]
  have hx : l[4 * k + j].toNat < 4294967296 := Nat.lt_of_lt_of_le l[4 * k + j].toNat_lt (by decide)
  rw [ofNat_toNat (Nat.or_lt_two_pow (n := 32) (Nat.mod_lt _ (by omega)) hx)]
  rw [show ∀ a : Nat, ((a : Int) * 256) % 4294967296 = ((a * 256 % 4294967296 : Nat) : Int) from fun a => by omega, show ((l[4 * k + j].toNat : Int) % 4294967296) = (l[4 * k + j].toNat : Int) from by omega]
  exact u32_or_nat _ _ (Nat.mod_lt _ (by omega)) hx
theorem m_shr (x : UInt32) (n : Nat) (d : Int) (hd : d = ((2 ^ n : Nat) : Int)) : ((x.toNat : Int) / d) = ((shrN x n).toNat : Int) := by
  rw [shrN_toNat, hd, Int.natCast_ediv]
theorem words_sum (a b c d : UInt32) :
    (((a.toNat : Int) + bits .xor .u32 (bits .xor .u32 ((rotr b 7).toNat : Int) ((rotr b 18).toNat : Int)) ((b.toNat : Int) / 8) + (c.toNat : Int) +
      bits .xor .u32 (bits .xor .u32 ((rotr d 17).toNat : Int) ((rotr d 19).toNat : Int)) ((d.toNat : Int) / 1024)) % 4294967296) =
    ((a + (rotr b 7 ^^^ rotr b 18 ^^^ shrN b 3) + c + (rotr d 17 ^^^ rotr d 19 ^^^ shrN d 10)).toNat : Int) := by
  rw [m_shr b 3 8 (by decide), m_shr d 10 1024 (by decide)]
  simp only [m_xor, UInt32.toNat_add]
  omega
theorem warr_size (l : List UInt8) (k : Nat) (h : k ≤ 64) : (warr l k).size = 64 := by
  unfold warr
  simp [ucells, wlist_length]
  omega
theorem ucells_one (l : List UInt32) : ∀ u ∈ ucells l, u.oneCell' = true := fun u hu => by
  obtain ⟨x, -, rfl⟩ := List.mem_map.1 hu
  rfl
theorem warr_full (l : List UInt8) : warr l 64 = (ucells (wlist l 64)).toArray := by
  unfold warr
  simp
theorem wnext_low (l : List UInt8) (k : Nat) (h : k < 16) : wnext l (wlist l k) = bacc ((l.drop (4 * k)).take 4) := by
  unfold wnext
  rw [wlist_length, if_pos h]
theorem ucells_get (xs : List UInt32) (j : Nat) (h : j < xs.length) : (ucells xs)[j]? = some (.int .u32 ((xs.getD j 0).toNat : Int)) := by
  unfold ucells
  rw [List.getElem?_map, List.getElem?_eq_getElem h]
  simp [ucell, h]
theorem wget (l : List UInt8) (k j : Nat) (v : Value) (hj : j < k) : (hole (ucells (wlist l k)) v k)[j]? = some (.int .u32 (((wlist l k).getD j 0).toNat : Int)) := by
  rw [hole_low _ _ _ _ (by rw [ucells_length, wlist_length]) hj]
  exact ucells_get _ _ (by rw [wlist_length]; exact hj)
theorem RowAt.new2 (w : World) (o : Obj) (cs : Array Value) (T : TypeId) : RowAt ((w.alloc o).alloc (.cells cs T)) (w.heap.size + 1) cs T := by
  have h := RowAt.new (w.alloc o) cs T
  have e : (w.alloc o).heap.size = w.heap.size + 1 := by show (w.heap.push o).size = _; simp
  rwa [e] at h

set_option maxRecDepth 100000 in
set_option maxHeartbeats 1000000 in
theorem words_any (v : Value) (l : List UInt8) (w : World) (p : Nat → Prop) (h : BAt w p v l) (hl : l.length = 64) :
    Calls Tryd.prog 25 #[v] w fun e w' => e = .returned (.agg (warr l 64)) ∧ Keeps (fun _ => False) w w' := by
  obtain ⟨b, off, c, rfl, hc, hm, hb, hcell⟩ := h.get (by omega)
  rw [hl] at hc ⊢
  simp only [maxLen] at hm
  have HL := Lib.hid hl
  go_enter Tryd.func25, Tryd.ntmps25
  clear hl
  go_wp2
  go_loopw [9] (fun u9 wr => ∃ k : Nat, k ≤ 64 ∧ u9 = .int .i64 k ∧ RowAt wr w.heap.size (warr l 0) 51 ∧ RowAt wr (w.heap.size + 1) (warr l k) 51 ∧ Keeps (fun _ => False) w wr) (fun u9 _ => 64 - (intOf u9).toNat)
  case atStart => exact ⟨0, by omega, rfl, ((RowAt.new w _ _).alloc _).eq rfl, (RowAt.new2 w _ _ _).eq rfl, ((Keeps.refl _ w).alloc _).alloc _⟩
  case round =>
    obtain ⟨k, hk, rfl, h0, h1, hkw⟩ := hrel
    by_cases hlt : k < 64
    · rw [warr_hole l k hlt] at h1
      have hxl : (ucells (wlist l k)).length = k := by rw [ucells_length, wlist_length]
      have HX := Lib.hid hxl
      clear hxl
      by_cases h16 : k < 16
      · go_wp2
        go_loopw [22] (fun u22 wq => ∃ j : Nat, j ≤ 4 ∧ u22 = .int .i64 j ∧ RowAt wq w.heap.size (warr l 0) 51 ∧ RowAt wq (w.heap.size + 1) (hole (ucells (wlist l k)) (ucell (bacc ((l.drop (4 * k)).take j))) k) 51 ∧ Keeps (fun _ => False) w wq) (fun u22 _ => 4 - (intOf u22).toNat)
        case atStart => exact ⟨0, by omega, rfl, h0, h1.eq rfl, hkw⟩
        case round =>
          obtain ⟨j, hj, rfl, h0', h1', hkq⟩ := hrel
          by_cases hjt : j < 4
          · have g1 := hkq.cell (hcell (4 * k + j) (by have := HL.out; omega)) (fun h => h)
            rw [← Nat.add_assoc] at g1
            have g2 : wr.cell? ⟨w.heap.size + 1, k, none⟩ = some (.int .u32 ((bacc ((l.drop (4 * k)).take j)).toNat : Int)) := (h1'.cell k).trans (hole_get _ _ k HX.out)
            have g3 := h1'.frozen k
            have BS := Lib.hid (bacc_step l k j (by have := HL.out; omega) hjt)
            clear hcell
            go_wp2
            go_roundw
            case rel => exact ⟨j + 1, by omega, by go_num, h0'.setOther _ _ (by simp), (h1'.set k _).eq (by rw [BS.out]; exact hole_set _ _ _ k HX.out), hkq.setCell _ _ (.inr (by simp))⟩
            case measure => simp [intOf]; omega
          · obtain rfl : j = 4 := by omega
            go_wp2
            go_roundw
            case rel => exact ⟨k + 1, by omega, by go_num, h0', h1'.eq (by rw [← wnext_low l k h16]; exact hole_warr l k hlt), hkq⟩
            case measure => simp [intOf]; omega
      · have h16' : (16 : Int) ≤ (k : Int) := by omega
        obtain ⟨e16, H16⟩ : ∃ e, (wlist l k).getD (k - 16) 0 = e := ⟨_, rfl⟩
        obtain ⟨e15, H15⟩ : ∃ e, (wlist l k).getD (k - 15) 0 = e := ⟨_, rfl⟩
        obtain ⟨e7, H7⟩ : ∃ e, (wlist l k).getD (k - 7) 0 = e := ⟨_, rfl⟩
        obtain ⟨e2, H2⟩ : ∃ e, (wlist l k).getD (k - 2) 0 = e := ⟨_, rfl⟩
        have c16 := (h1.cell (k - 16)).trans (wget l k (k - 16) _ (by omega))
        have c15 := (h1.cell (k - 15)).trans (wget l k (k - 15) _ (by omega))
        have c7 := (h1.cell (k - 7)).trans (wget l k (k - 7) _ (by omega))
        have c2 := (h1.cell (k - 2)).trans (wget l k (k - 2) _ (by omega))
        rw [H16] at c16
        rw [H15] at c15
        rw [H7] at c7
        rw [H2] at c2
        have hw : wnext l (wlist l k) = e16 + (rotr e15 7 ^^^ rotr e15 18 ^^^ shrN e15 3) + e7 + (rotr e2 17 ^^^ rotr e2 19 ^^^ shrN e2 10) := by
          unfold wnext
          rw [wlist_length, if_neg h16, H16, H15, H7, H2]
        have W := Lib.hid hw
        have ck := (h1.cell k).trans (hole_get _ _ k HX.out)
        have g3 := h1.frozen k
        clear H16 H15 H7 H2 hcell hw
        go_wp2
        go_quiet (fail)
        go_wp2
        refine region_draws_tail 29 (by kernel_rfl) (by kernel_rfl) ?_
        simp only [List.take_succ_cons, List.take_zero, List.drop_succ_cons, List.drop_zero]
        repeat (go_big_quiet_step (first | (with_reducible exact quiet_same2 (right_any _ _ _ (by decide) (by decide))) | (with_reducible exact quiet_same (right_any _ _ _ (by decide) (by decide)))))
        refine wpQuiet_nil ?_
        rintro _ ⟨nq, rfl⟩
        go_wp2
        go_roundw
        case rel => exact ⟨k + 1, by omega, by go_num, (h0.drewN _).setOther _ _ (by simp), ((h1.drewN _).set k _).eq (by rw [words_sum, ← W.out]; exact (hole_set _ _ _ k HX.out).trans (hole_warr l k hlt)), (hkw.drewN _).setCell _ _ (.inr (by simp))⟩
        case measure => simp [intOf]; omega
    · obtain rfl : k = 64 := by omega
      have hs0 : (warr l 0).size = 64 := warr_size l 0 (by omega)
      have hs1 : (warr l 64).size = 64 := warr_size l 64 (by omega)
      have hone : (warr l 64).all (·.oneCell') = true := by rw [warr_full]; exact all_oneCell_toArray (ucells_one _)
      obtain ⟨W, hW⟩ : ∃ W, warr l 64 = W := ⟨_, rfl⟩
      have HW := Lib.hid hW
      rw [hW] at h1 hs1 hone
      clear hW
      generalize warr l 0 = W0 at h0 hs0
      clear hcell
      go_wp2_with (first | (refine wpList_load_whole rfl 51 (.tmp 3) rfl _ rfl _ W 64 40 h1 (by kernel_rfl) hs1 (by kernel_rfl) ?_) | ((refine wpList_store_whole rfl 51 (.tmp 2) (.tmp 74) rfl _ W rfl rfl _ W0 64 h0 hs1 hs0 (by kernel_rfl) hone (fun w' hr hk' => ?_))))
      (try simp only [Exit.inBlock, Exit.then])
      refine ret_whole 2 51 (by kernel_rfl) w.heap.size _ W 64 40 rfl hr (by kernel_rfl) hs1 (by kernel_rfl) rfl ?_
      exact ⟨by rw [HW.out], hkw.own hk' (Nat.le_refl _)⟩

end Go.Proofs.YtkcnllbfinjaiaaDoor
