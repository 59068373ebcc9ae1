/- Words, walks and plain laws that the claim leans on, part 21. -/
import Derived.Test.YtekaoknpjpbjgaaDoorM16
import Derived.Test.YtekaoknpjpbjgaaDoorM17
import Derived.Test.YtekaoknpjpbjgaaDoorM20

/-! slices.Concat of rows of bytes. -/
namespace Go.Proofs.YtekaoknpjpbjgaaDoor
set_option linter.unusedVariables false
set_option linter.unusedSimpArgs false
open Go.RowKit

set_option maxRecDepth 100000 in
theorem grow_any (n : Nat) (w : World) (h0 : 0 < n) (h1 : n ≤ 1000000) :
    Calls Tryd.prog 90 #[.slice none 0 0, .int .i64 n] w (Gives [] w) := by
  obtain ⟨v', w', hrun, ho, hk⟩ := run_zeros_bytes n (BOwn.nil w w.heap.size) (by simp; omega) (Nat.le_refl _)
  rw [List.nil_append] at ho
  obtain ⟨g, off, c, rfl, hc, hcm, hgb⟩ := BOwn.place ho (by simp; omega)
  have hl : (List.replicate n (0 : UInt8)).length = n := List.length_replicate
  have hf : BOwn w' w.heap.size (.slice (some ⟨g, off, none⟩) 0 c) [] := by
    obtain ⟨h1, h2, h3⟩ := ho
    rcases h3 with ⟨e, -, -⟩ | ⟨g', off', c', cs, hb, e, h4, h5, hr, h6, h7⟩
    · simp at e
    · simp only [Value.slice.injEq, Option.some.injEq, Addr.mk.injEq, and_true] at e
      obtain ⟨⟨rfl, rfl⟩, -, rfl⟩ := e
      exact ⟨by simp [bcells], by simp [bcells], .inr ⟨g, off, c, cs, hb, rfl, Nat.zero_le _, h5, hr, h6, fun j hj => by simp at hj⟩⟩
  rw [hl] at hrun hc
  have HR := Lib.hid hrun
  have HF := Lib.hid hf
  have HK := Lib.hid (hk.mono (S' := fun _ => False) (fun b _ e => by simp [Value.ownBlock] at e))
  clear hrun ho hk hf hl
  go_enter Tryd.func90, Tryd.ntmps90
  go_wp2_with (at_builtin; refine Lib.wpList_append_run _ rfl _ _ _ _ rfl _ _ rfl rfl _ _ HR.out ?_)
  go_ret
  exact ⟨_, rfl, HF.out, HK.out⟩
set_option maxRecDepth 100000 in
set_option maxHeartbeats 1000000 in
theorem concat_any (v : Value) (ls : List (List UInt8)) (w : World) (h : BBRd w v ls) (hl : ls.flatten.length ≤ 1000000) (h0 : 0 < ls.flatten.length) (hll : ls.length ≤ 1000) :
    Calls Tryd.prog 80 #[v] w (Gives ls.flatten w) := by
  have hn0 : 0 < ls.length := by
    cases ls with
    | nil => simp at h0
    | cons => simp
  obtain ⟨b, off, c, rfl, hc, hm, hb, hcell⟩ := h.get hn0
  have HCELL := Lib.hid hcell
  clear hcell
  go_enter Tryd.func80, Tryd.ntmps80
  go_wp2
  go_loop [11, 3] (fun u11 u3 => ∃ k : Nat, k ≤ ls.length ∧ u11 = .int .i64 k ∧ u3 = .int .i64 ((ls.take k).flatten.length : Nat)) (fun u11 _ => ls.length - (intOf u11).toNat)
  case atStart => exact ⟨0, by omega, rfl, rfl⟩
  case round =>
    obtain ⟨k, hk, rfl, rfl⟩ := hrel
    by_cases hlt : k < ls.length
    · obtain ⟨x, hx, hbx⟩ := HCELL.out k hlt
      obtain ⟨xa, xc, rfl, -, -⟩ := BAt.slice hbx
      have hle := flat_le ls (k + 1)
      rw [List.take_succ_eq_append_getElem hlt, List.flatten_append, List.length_append] at hle
      simp only [List.flatten_cons, List.flatten_nil, List.append_nil] at hle
      have hs : (ls.take (k + 1)).flatten.length = (ls.take k).flatten.length + ls[k].length := by
        rw [List.take_succ_eq_append_getElem hlt, List.flatten_append, List.length_append]
        simp
      obtain ⟨m, hm2⟩ : ∃ m, (ls.take k).flatten.length = m := ⟨_, rfl⟩
      obtain ⟨m2, hm3⟩ : ∃ m, ls[k].length = m := ⟨_, rfl⟩
      rw [hm2, hm3] at hs hle
      rw [hm3] at hx
      have HS := Lib.hid hs
      rw [hm2]
      have hge : ¬ ((m : Int) + (m2 : Int)) < 0 := by omega
      clear hs hm2 hm3 hbx
      go_wp2
      go_round
      case rel => exact ⟨k + 1, by omega, by go_num, by rw [HS.out]; rfl⟩
      case measure => simp [intOf]; omega
    · obtain rfl : k = ls.length := by omega
      rw [List.take_length]
      obtain ⟨m, hm2⟩ : ∃ m, ls.flatten.length = m := ⟨_, rfl⟩
      rw [hm2]
      have HM := Lib.hid hm2
      rw [hm2] at hl h0
      have HG := Lib.hid (grow_any m w h0 hl)
      clear hm2
      go_wp2_with fail
      refine HG.out.mono ?_
      rintro e w1 ⟨v1, rfl, ho1, hk1⟩
      have HO1 := Lib.hid ho1
      have HK1 := Lib.hid hk1
      clear ho1 hk1
      go_wp2
      go_loopw [27, 6] (fun u27 u6 wr => ∃ k : Nat, k ≤ ls.length ∧ u27 = .int .i64 k ∧ BOwn wr w.heap.size u6 (ls.take k).flatten ∧ Keeps (fun _ => False) w wr) (fun u27 _ _ => ls.length - (intOf u27).toNat)
      case atStart => exact ⟨0, by omega, rfl, HO1.out, HK1.out⟩
      case round =>
        obtain ⟨k, hk, rfl, ho, hkw⟩ := hrel
        by_cases hlt : k < ls.length
        · obtain ⟨x, hx, hbx⟩ := HCELL.out k hlt
          have hx' := hkw.cell hx (fun h => h)
          have hle := flat_le ls (k + 1)
          rw [List.take_succ_eq_append_getElem hlt, List.flatten_append, List.length_append, HM.out] at hle
          obtain ⟨v', w', hrun, ho', hk', -⟩ := run_append_bytes (ty := 25) ho (hbx.keeps hkw (fun _ _ h => h)) (by simp only [List.flatten_cons, List.flatten_nil, List.append_nil] at hle; omega) hkw.size
          have HR := Lib.hid hrun
          have HO' := Lib.hid ho'
          have HK' := Lib.hid (hkw.from hk' fun i hi => (ho.block i hi).1)
          clear hrun hle hx ho' hk' hkw ho hbx
          go_wp2_with (at_builtin; refine Lib.wpList_append_run _ rfl _ _ _ _ rfl _ _ rfl rfl _ _ HR.out ?_)
          go_roundw
          case rel => exact ⟨k + 1, by omega, by go_num, by rw [List.take_succ_eq_append_getElem hlt, List.flatten_append]; simpa using HO'.out, HK'.out⟩
          case measure => simp [intOf]; omega
        · obtain rfl : k = ls.length := by omega
          rw [List.take_length] at ho
          have HO := Lib.hid ho
          have HK := Lib.hid hkw
          clear ho hkw
          go_wp2
          go_ret
          exact ⟨_, rfl, HO.out, HK.out⟩
theorem be4_bytes (n : Nat) (h : n < 4294967296) : #[Value.int .u8 ((n : Int) / 16777216), .int .u8 ((n : Int) / 65536 % 256), .int .u8 ((n : Int) / 256 % 256), .int .u8 ((n : Int) % 256)] = (bcells (be4 n)).toArray := by
  have e : ∀ m : Nat, ((m : Int) % 256) = ((UInt8.ofNat m).toNat : Int) := fun m => by rw [UInt8.toNat_ofNat']; omega
  have e2 : ((n : Int) / 65536) = ((n / 65536 : Nat) : Int) := by omega
  have e3 : ((n : Int) / 256) = ((n / 256 : Nat) : Int) := by omega
  have e0 : (n : Int) / 16777216 = ((n / 16777216 : Nat) : Int) % 256 := by omega
  rw [e0, e2, e3, e, e, e, e]
  rfl
set_option maxRecDepth 100000 in
set_option maxHeartbeats 1000000 in
theorem counter_any (sv iv : Value) (salt ivl : List UInt8) (n : Nat) (w : World) (hs : BRd w sv salt) (hi : BRd w iv ivl) (h1 : salt.length = 4) (h2 : ivl.length = 8) (h3 : 1 ≤ n) (h4 : n < 4294967296) :
    Calls Tryd.prog 67 #[sv, iv, .int .i64 n] w fun e w' => ∃ v, e = .returned (.tuple #[v, .int .i64 0]) ∧ BOwn w' w.heap.size v (salt ++ ivl ++ be4 n) ∧ Keeps (fun _ => False) w w' := by
  obtain ⟨sa, sc, rfl, -, -⟩ := BAt.slice hs
  obtain ⟨ia, ic, rfl, -, -⟩ := BAt.slice hi
  have HS := Lib.hid hs
  have HI := Lib.hid hi
  rw [h1] at HS ⊢
  rw [h2] at HI ⊢
  have hd : (n : Int) / 4294967296 = 0 := by omega
  have hn1 : ¬ (n : Int) < 1 := by omega
  have HB := Lib.hid (be4_bytes n h4)
  clear hs hi
  go_enter Tryd.func67, Tryd.ntmps67
  go_wp2_with fail
  rw [HB.out]
  have hka := (Keeps.refl (fun _ => False) w).alloc (.cells (bcells (be4 n)).toArray 5)
  have hba : BAt (w.alloc (.cells (bcells (be4 n)).toArray 5)) (fun b => w.heap.size ≤ b) (.slice (some ⟨w.heap.size, 0, none⟩) 4 4) (be4 n) := BAt.lit w _ (be4 n) 4 _ rfl rfl (by omega)
  have hsz : (w.alloc (.cells (bcells (be4 n)).toArray 5)).heap.size = w.heap.size + 1 := Array.size_push _
  have hrows := (BBAt.three (T := 25) (BRd.keeps HS.out hka) (BRd.keeps HI.out hka) hba.low).low
  rw [hsz] at hrows
  have hkb := hka.alloc (.cells #[.slice sa 4 sc, .slice ia 8 ic, .slice (some ⟨w.heap.size, 0, none⟩) 4 4] 25)
  have hfl : [salt, ivl, be4 n].flatten = salt ++ ivl ++ be4 n := by simp
  have hlen : [salt, ivl, be4 n].flatten.length = 16 := by rw [hfl]; simp [h1, h2, be4]
  refine (concat_any _ [salt, ivl, be4 n] _ hrows (by rw [hlen]; omega) (by rw [hlen]; omega) (by simp)).mono ?_
  rintro e w1 ⟨v1, rfl, ho1, hk1⟩
  rw [hfl] at ho1
  have HO := Lib.hid (ho1.mono hkb.size)
  have HK := Lib.hid (hkb.trans hk1 (fun _ _ h => h))
  clear ho1 hk1 hkb hrows hba hka hlen hfl
  go_wp2
  go_ret2
  exact ⟨_, rfl, HO.out, HK.out⟩
end Go.Proofs.YtekaoknpjpbjgaaDoor
