/- Words, walks and plain laws that the claim leans on, part 16. -/
import Derived.Test.YtngpbihnmgjniaaDoorM14
import Derived.Lib.BufferWrite
import Derived.Lib.SlBuf

/-! ip4.Bytes: what a packet is laid down as. -/
namespace Go.Proofs.YtngpbihnmgjniaaDoor
set_option linter.unusedVariables false
set_option linter.unusedSimpArgs false
open Go.RowKit

theorem Keeps.setRow (w : World) (g : Nat) (cs : Array Value) : Keeps (· = g) w (w.setRow g cs) :=
  ⟨rfl, rfl, rfl, by simp, fun k _ hk => by
    show (w.heap.modify g _)[k]? = _
    rw [Array.getElem?_modify, if_neg (fun h => hk h.symm)]⟩
set_option maxRecDepth 10000 in
/-- A text copied into bytes of the call's own. -/
theorem copy_str {w : World} {B g off n c : Nat} {L : List UInt8} {ty : TypeId} (k N C : Nat) (a2 : Option Addr) (s : List UInt8) (h : BOwn w B (.slice (some ⟨g, off, none⟩) n c) L) (hk : k + s.length ≤ L.length) (hN : s.length ≤ N) (ha : s ≠ [] → a2 = some ⟨g, off + k, none⟩) :
    ∃ w', (Builtin.copy_ #[22, 9] ty #[.slice a2 N C, .string ⟨s.toArray⟩]).run Tryd.prog w = .ok (.int .i64 (s.length : Int)) w' ∧
      BOwn w' B (.slice (some ⟨g, off, none⟩) n c) (L.take k ++ s ++ L.drop (k + s.length)) ∧ Keeps (· = g) w w' := by
  obtain ⟨i, hi, hz, hs, hb⟩ := info_parts info_u8
  by_cases h0 : s = []
  · subst h0
    have hr := Lib.run_copy_empty_string (P := Tryd.prog) w 22 9 ty 5 a2 N C ⟨([] : List UInt8).toArray⟩ Tryd.underlying22 (by rw [hi]; rfl) rfl
    refine ⟨w, hr, ?_, Keeps.refl _ _⟩
    simpa using h
  · have ha' := ha h0
    subst ha'
    obtain ⟨h1, h2, h3⟩ := h
    rcases h3 with ⟨e, -, -⟩ | ⟨g', off', c', cs, hB, e, hnc, hcm, hrow, hfit, hcell⟩
    · simp at e
    · simp only [Value.slice.injEq, Option.some.injEq, Addr.mk.injEq, and_true] at e
      obtain ⟨⟨rfl, rfl⟩, rfl, rfl⟩ := e
      have hsz : (ByteArray.mk s.toArray).size = s.length := by simp [ByteArray.size]
      have hnl : L.length ≤ c := hnc
      have hr := Lib.run_copy_row_string (P := Tryd.prog) w 22 9 ty 5 g (off + k) N C ⟨s.toArray⟩ cs 5 Tryd.underlying22 (by rw [hi]; simp [hs]) hrow (by rw [hsz]; exact hN) (by rw [hsz]; omega)
      rw [hsz] at hr
      have hlt : g < w.heap.size := hrow.lt
      have hnew : RowAt (w.setRow g (cs.toList.take (off + k) ++ Lib.byteCells s ++ cs.toList.drop (off + k + s.length)).toArray) g (cs.toList.take (off + k) ++ Lib.byteCells s ++ cs.toList.drop (off + k + s.length)).toArray 5 := setRow_heap w g _ _ _ _ hrow
      have hl2 : (L.take k ++ s ++ L.drop (k + s.length)).length = L.length := by
        rw [List.length_append, List.length_append, List.length_take, List.length_drop]; omega
      have hbs : Lib.byteCells s = bcells s := rfl
      have hcs : (cs.toList.take (off + k)).length = off + k := by rw [List.length_take, Array.length_toList]; omega
      have hbl := bcells_length s
      refine ⟨_, hr, ⟨by rw [bcells_length, Nat.mul_one], bcells_one _, .inr ⟨g, off, c, _, hB, by rw [hl2], by rw [hl2]; exact hnc, hcm, hnew, ?_, fun j hj => ?_⟩⟩, ?_⟩
      · have e1 : (cs.toList.take (off + k) ++ Lib.byteCells s ++ cs.toList.drop (off + k + s.length)).length = cs.size := by
          have hq : cs.toList.length = cs.size := rfl
          have ho : s.toArray.size = s.length := rfl
          rw [hbs, List.length_append, List.length_append, hcs, hbl, List.length_drop]; omega
        show off + c * 1 ≤ (cs.toList.take (off + k) ++ Lib.byteCells s ++ cs.toList.drop (off + k + s.length)).length
        rw [e1]; exact hfit
      · rw [hl2, Nat.mul_one] at hj
        rw [List.getElem?_toArray, hbs, bcells_append, bcells_append]
        have hk1 : (bcells (L.take k)).length = k := by rw [bcells_length, List.length_take]; omega
        by_cases j1 : j < k
        · rw [List.append_assoc, List.append_assoc, List.getElem?_append_left (by rw [hcs]; omega), List.getElem?_append_left (by rw [hk1]; exact j1), List.getElem?_take_of_lt (by omega), Array.getElem?_toList, hcell j (by omega)]
          unfold bcells
          rw [List.map_take, List.getElem?_take_of_lt j1]
        · by_cases j2 : j < k + s.length
          · rw [List.getElem?_append_left (by rw [List.length_append, hcs, hbl]; omega), List.getElem?_append_right (by rw [hcs]; omega), hcs,
              List.getElem?_append_left (by rw [List.length_append, hk1, hbl]; omega), List.getElem?_append_right (by rw [hk1]; omega), hk1]
            congr 1
            omega
          · have d1 : (bcells (L.drop (k + s.length)))[j - (k + s.length)]? = (bcells L)[j]? := by
              unfold bcells
              rw [List.getElem?_map, List.getElem?_map, List.getElem?_drop, Nat.add_sub_cancel' (by omega)]
            have d2 : (cs.toList.drop (off + k + s.length))[off + j - (off + k + s.length)]? = cs[off + j]? := by
              rw [List.getElem?_drop, Nat.add_sub_cancel' (by omega)]
              simp
            have d3 : (cs.toList.take (off + k) ++ bcells s).length = off + k + s.length := by rw [List.length_append, hcs, hbl]
            have d4 : (bcells (L.take k) ++ bcells s).length = k + s.length := by rw [List.length_append, hk1, hbl]
            rw [List.getElem?_append_right (by rw [d3]; omega), List.getElem?_append_right (by rw [d4]; omega), d3, d4, d1, d2]
            exact hcell j (by omega)
      · exact Keeps.setRow _ _ _
end Go.Proofs.YtngpbihnmgjniaaDoor

/-! ip4.Bytes: the walk. -/
namespace Go.Proofs.YtngpbihnmgjniaaDoor
set_option linter.unusedVariables false
set_option linter.unusedSimpArgs false
open Go.RowKit

theorem put0_any (g n c B k m : Nat) (L L' : List UInt8) (w : World) (h : BOwn w B (.slice (some ⟨g, 0, none⟩) n c) L) (hk : k + 2 ≤ L.length) (hm : m ≤ 65535)
    (hL : (L.set k (UInt8.ofNat (m / 256))).set (k + 1) (UInt8.ofNat (m % 256)) = L') :
    Calls Tryd.prog 17 #[.slice (some ⟨g, k, none⟩) (n - k) (c - k), .int .i64 m] w fun e w' => (∃ x, e = .returned x) ∧ BOwn w' B (.slice (some ⟨g, 0, none⟩) n c) L' ∧ Keeps (· = g) w w' := by
  subst hL
  have := put_any g 0 n c B k m L w h hk hm
  rwa [Nat.zero_add] at this

def fr10 (t i tt pr q h tot : Nat) : List UInt8 := [UInt8.ofNat (64 + h), UInt8.ofNat t, UInt8.ofNat (tot / 256), UInt8.ofNat (tot % 256), UInt8.ofNat (i / 256), UInt8.ofNat (i % 256), UInt8.ofNat (q / 256), UInt8.ofNat (q % 256), UInt8.ofNat tt, UInt8.ofNat pr]
def offN (df mf : Bool) (o : Nat) : Nat := o + (if df then 16384 else 0) + (if mf then 8192 else 0)
def hd10 (t i tt pr o : Nat) (df mf : Bool) (opt data : List UInt8) : List UInt8 := fr10 t i tt pr (offN df mf o) (5 + opt.length / 4) (20 + opt.length + data.length)
def hdN (t i tt pr o : Nat) (df mf : Bool) (src dst opt data : List UInt8) : List UInt8 := hd10 t i tt pr o df mf opt data ++ [0, 0] ++ src ++ dst ++ opt
def bytesN (t i tt pr o : Nat) (df mf : Bool) (src dst opt data : List UInt8) : List UInt8 :=
  hd10 t i tt pr o df mf opt data ++ b2 (65535 - sum16 (hdN t i tt pr o df mf src dst opt data)) ++ src ++ dst ++ opt ++ data

theorem u8_or64 : ∀ h : _root_.Fin 16, bits .or .u8 64 ((h.val : Nat) : Int) = ((64 + h.val : Nat) : Int) := by decide
theorem u8_or64' (h : Nat) (hh : h < 16) : bits .or .u8 64 (h : Int) = (((UInt8.ofNat (64 + h)).toNat : Nat) : Int) := by
  have := u8_or64 ⟨h, hh⟩
  simp only at this
  rw [this, UInt8.toNat_ofNat']
  omega
theorem or_hi (k a o : Nat) (h : o < 2 ^ k) (ha : 2 ^ k * 1 = a) : o ||| a = o + a := by
  have := Nat.two_pow_add_eq_or_of_lt h 1
  rw [ha] at this
  rw [Nat.or_comm, ← this]
  exact Nat.add_comm _ _
theorem or_14 (o : Nat) (h : o < 16384) : o ||| 16384 = o + 16384 := or_hi 14 16384 o h (by decide)
theorem or_13 (o : Nat) (h : o < 8192) : o ||| 8192 = o + 8192 := or_hi 13 8192 o h (by decide)
theorem or_swap (a b c : Nat) : (a ||| b) ||| c = (a ||| c) ||| b := by rw [Nat.or_assoc, Nat.or_comm b, ← Nat.or_assoc]
theorem or_1413' (o a b : Nat) (h : o ||| b = o + b) (h1 : o ||| a = o + a) (h2 : (o + b) ||| a = o + b + a) : (o + a) ||| b = o + a + b := by
  rw [← h1, or_swap, h, h2, h1]
  exact Nat.add_right_comm _ _ _
theorem or_1413 (o : Nat) (h : o < 8192) : (o + 16384) ||| 8192 = o + 16384 + 8192 := or_1413' o 16384 8192 (or_13 o h) (or_14 o (by omega)) (or_14 _ (by omega))

theorem zeros20 (k : Nat) : List.replicate (20 + k) (0 : UInt8) = [0, 0, 0, 0, 0, 0, 0, 0, 0, 0, 0, 0, 0, 0, 0, 0, 0, 0, 0, 0] ++ List.replicate k 0 := by
  rw [← List.replicate_append_replicate]
  rfl
theorem at0 {w : World} {B g n c : Nat} {L L' : List UInt8} {X : Int} (h : BOwn w B (.slice (some ⟨g, 0, none⟩) n c) L) (i : Nat) (hi : i < L.length) (x : UInt8) (hx : ((x.toNat : Nat) : Int) = X) (hL : L.set i x = L') :
    (∃ v, w.cell? ⟨g, i, none⟩ = some v) ∧ w.frozen? ⟨g, i, none⟩ = false ∧ BOwn (w.setCell ⟨g, i, none⟩ (.int .u8 X)) B (.slice (some ⟨g, 0, none⟩) n c) L' := by
  obtain ⟨h1, h2, h3⟩ := h.at i hi
  rw [Nat.zero_add] at h1 h2 h3
  subst hL hx
  exact ⟨⟨_, h1⟩, h2, h3 x⟩
theorem four_of (l : List UInt8) (h : l.length = 4) : ∃ a b c d, Hid (l = [a, b, c, d]) := by
  obtain ⟨a, l, rfl⟩ := List.exists_cons_of_length_pos (l := l) (by omega)
  obtain ⟨b, l, rfl⟩ := List.exists_cons_of_length_pos (l := l) (by simp only [List.length_cons] at h; omega)
  obtain ⟨c, l, rfl⟩ := List.exists_cons_of_length_pos (l := l) (by simp only [List.length_cons] at h; omega)
  obtain ⟨d, l, rfl⟩ := List.exists_cons_of_length_pos (l := l) (by simp only [List.length_cons] at h; omega)
  obtain rfl : l = [] := List.eq_nil_of_length_eq_zero (by simp only [List.length_cons] at h; omega)
  exact ⟨a, b, c, d, Lib.hid rfl⟩
theorem ofNat_int (n : Nat) (h : n ≤ 255) : (((UInt8.ofNat n).toNat : Nat) : Int) = (n : Int) := by rw [UInt8.toNat_ofNat']; omega

set_option maxRecDepth 100000 in
set_option maxHeartbeats 4000000 in
theorem bytes_ok (t i tt pr o : Nat) (df mf : Bool) (src dst opt data : List UInt8) (dv : Value) (w : World) (hd : BRd w dv data)
    (ht : t ≤ 255) (hi : i ≤ 65535) (htt : tt ≤ 255) (hpr : pr ≤ 255) (ho : o ≤ 8191) (hs : src.length = 4) (hds : dst.length = 4) (h4 : opt.length % 4 = 0) (h40 : opt.length ≤ 40) (hall : 20 + opt.length + data.length ≤ 65535)
    (hE : checkE ⟨t, i, tt, pr, df, mf, ((8 * o : Nat) : Int), src, dst, opt, data⟩ = 0) :
    Calls Tryd.prog 10 #[.agg (p4cells ⟨t, i, tt, pr, df, mf, ((8 * o : Nat) : Int), src, dst, opt, data⟩ dv)] w fun e w' =>
      ∃ v, e = .returned (.tuple #[v, .int .i64 0]) ∧ BOwn w' w.heap.size v (bytesN t i tt pr o df mf src dst opt data) ∧ Keeps (fun _ => False) w w' := by
  obtain ⟨da, dc, rfl, hdc, hdm⟩ := hd.slice
  simp only [maxLen] at hdm
  obtain ⟨s0, s1, s2, s3, HS⟩ := four_of src hs
  obtain ⟨d0, d1, d2, d3, HD⟩ := four_of dst hds
  have hk0 := (Keeps.refl (fun _ => False) w).alloc (.cells (p4cells ⟨t, i, tt, pr, df, mf, ((8 * o : Nat) : Int), src, dst, opt, data⟩ (.slice da data.length dc)) 24)
  have hcheck := check4_any w.heap.size _ _ _ (RowAt.new w (p4cells ⟨t, i, tt, pr, df, mf, ((8 * o : Nat) : Int), src, dst, opt, data⟩ (.slice da data.length dc)) 24) (hd.keeps hk0) (by simp only; omega) (by simp only; omega)
  rw [hE] at hcheck
  have hr0 := RowAt.new w (p4cells ⟨t, i, tt, pr, df, mf, ((8 * o : Nat) : Int), src, dst, opt, data⟩ (.slice da data.length dc)) 24
  have HCK := Lib.hid hcheck
  have HR0 := Lib.hid hr0
  clear hcheck hr0 hE
  obtain ⟨n, hn⟩ : ∃ n, 20 + opt.length = n := ⟨_, rfl⟩
  obtain ⟨c, hc⟩ : ∃ c, n + data.length = c := ⟨_, rfl⟩
  have hn' : (20 : Int) + (opt.length : Int) = (n : Int) := by omega
  have hc' : (n : Int) + (data.length : Int) = (c : Int) := by omega
  have hnl : (n : Int) ≤ 60 := by omega
  have hcl : (c : Int) ≤ 65535 := by omega
  have HN := Lib.hid hn
  have HC := Lib.hid hc
  clear hn hc
  go_enter Tryd.func10, Tryd.ntmps10
  go_wp2_with fail
  refine HCK.out.mono ?_
  rintro e w2 ⟨⟨hz, rfl⟩ | ⟨hz, fb, rfl, hf⟩, hk⟩
  case inr => exact absurd rfl hz
  clear hz HCK
  have hr2 := HR0.out.keeps hk (fun h => h)
  have hk2 := hk0.trans hk (fun _ _ h => h)
  have hd2 := hd.keeps hk2
  have hlt2 := hr2.lt
  clear hk hk0 HR0
  have c9 : w2.cell? ⟨w.heap.size, 9, none⟩ = some (.string ⟨opt.toArray⟩) := hr2.cell 9
  have c10 : w2.cell? ⟨w.heap.size, 10, none⟩ = some (.slice da data.length dc) := hr2.cell 10
  obtain ⟨g, hg⟩ : ∃ g, w2.heap.size = g := ⟨_, rfl⟩
  obtain ⟨h, hh⟩ : ∃ h, 5 + opt.length / 4 = h := ⟨_, rfl⟩
  have e4 : (n : Int) / 4 = (h : Int) := by omega
  have e5 := u8_or64' h (by omega)
  obtain ⟨X0, hX0⟩ : ∃ X0, UInt8.ofNat (64 + h) = X0 := ⟨_, rfl⟩
  rw [hX0] at e5
  have HX0 := Lib.hid hX0
  have HH := Lib.hid hh
  have ht' : (t : Int) ≤ 255 := by omega
  have hd8 : (h : Int) ≤ 15 := by omega
  clear hX0 hh
  have hz := zeros20 opt.length
  rw [HN.out] at hz
  go_wp2_with (at_make; (refine wpList_make_bytes rfl (.tmp 17) (.tmp 22) rfl w.heap.size _ _ n c rfl rfl (by omega) (by omega) (by omega) (by omega) (by omega) (fun w3 ho3 hk3 => ?_)); (rw [hg, hz] at ho3; clear hz); (have hr3 := hr2.keeps hk3 (fun h => h)); (have c0 : w3.cell? ⟨w.heap.size, 0, none⟩ = some (.int .i64 t) := hr3.cell 0); (obtain ⟨⟨y0, a1⟩, a2, ho4⟩ := at0 ho3 0 (by simp) X0 rfl rfl); (obtain ⟨⟨y1, b1⟩, b2, ho5⟩ := at0 ho4 1 (by simp) (UInt8.ofNat t) (ofNat_int t ht) rfl))
  have hge : w.heap.size ≤ g := by omega
  have hne : w.heap.size ≠ g := by omega
  have hnc : n ≤ c := by omega
  have hn20 : 20 ≤ n := by omega
  have hkA := (hk2.trans hk3 (fun _ _ h => h))
  obtain ⟨T, hT⟩ : ∃ T, List.replicate opt.length (0 : UInt8) = T := ⟨_, rfl⟩
  rw [hT] at ho5
  obtain ⟨w4, hw4, ho6, hr6, hk6⟩ : ∃ w4, ((w3.setCell ⟨g, 0, none⟩ (.int .u8 ↑X0.toNat)).setCell ⟨g, 1, none⟩ (.int .u8 ↑t)) = w4 ∧ BOwn w4 w.heap.size (.slice (some ⟨g, 0, none⟩) n c) ([X0, UInt8.ofNat t, 0, 0, 0, 0, 0, 0, 0, 0, 0, 0, 0, 0, 0, 0, 0, 0, 0, 0] ++ T) ∧
      RowAt w4 w.heap.size (p4cells ⟨t, i, tt, pr, df, mf, ((8 * o : Nat) : Int), src, dst, opt, data⟩ (.slice da data.length dc)) 24 ∧ Keeps (fun _ => False) w w4 :=
    ⟨_, rfl, ho5, (hr3.setOther _ _ hne).setOther _ _ hne, (hkA.setCell _ _ (.inr hge)).setCell _ _ (.inr hge)⟩
  have hTl : T.length = opt.length := by rw [← hT, List.length_replicate]
  have HT := Lib.hid hT
  rw [hw4]
  clear hT ho5 ho4 ho3 b1 b2 a1 a2 c0 hr3 hk3 hw4 hkA hg hr2 c9 c10 hlt2 e5
  have c10 : w4.cell? ⟨w.heap.size, 10, none⟩ = some (.slice da data.length dc) := hr6.cell 10
  have hc2 : ¬ (c = 2) := by omega
  have hnI : (20 : Int) ≤ (n : Int) := by omega
  have hcI : (20 : Int) ≤ (c : Int) := by omega
  refine region_draws_tail 7 (by kernel_rfl) (by kernel_rfl) ?_
  simp only [List.take_succ_cons, List.take_zero, List.drop_succ_cons, List.drop_zero]
  repeat (go_big_quiet_step (fail))
  refine wpQuiet_nil ?_
  rintro _ ⟨nq, rfl⟩
  go_wp2_with (go_at_call 17; refine (put0_any g n c _ 2 c _ _ _ (ho6.keeps ((Keeps.refl (fun _ => False) _).drewN _) (fun _ _ h => h)) (by simp) (by omega) rfl).mono ?_; rintro e w5 ⟨⟨x, rfl⟩, ho7, hk7⟩)
  have hgS : ∀ b, b = g → w.heap.size ≤ b := fun b e => by omega
  have hr7 := (hr6.drewN nq).keeps hk7 hne
  have hk7' := (hk6.drewN nq).from hk7 hgS
  clear hr6 hk6 hk7 ho6 c10 w4
  have c1 : w5.cell? ⟨w.heap.size, 1, none⟩ = some (.int .i64 i) := hr7.cell 1
  have hc4 : ¬ (c = 4) := by omega
  obtain ⟨o8, ho8e⟩ : ∃ o8, 8 * o = o8 := ⟨_, rfl⟩
  have e8 : ((o8 : Int) / 8) = (o : Int) := by omega
  have ho' : (o : Int) ≤ 8191 := by omega
  have ho8' : (o8 : Int) ≤ 65528 := by omega
  obtain ⟨o1, h1⟩ : ∃ o1, o + 16384 = o1 := ⟨_, rfl⟩
  obtain ⟨o2, h2⟩ : ∃ o2, o + 8192 = o2 := ⟨_, rfl⟩
  obtain ⟨o3, h3⟩ : ∃ o3, o + 16384 + 8192 = o3 := ⟨_, rfl⟩
  have r1 : bits .or .i64 (o : Int) 16384 = (o1 : Int) := by
    have := i64_or_nat o 16384 (by omega) (by omega)
    rw [or_14 o (by omega), h1] at this
    exact this
  have r2 : bits .or .i64 (o : Int) 8192 = (o2 : Int) := by
    have := i64_or_nat o 8192 (by omega) (by omega)
    rw [or_13 o (by omega), h2] at this
    exact this
  have r3 : bits .or .i64 (o1 : Int) 8192 = (o3 : Int) := by
    have := i64_or_nat (o + 16384) 8192 (by omega) (by omega)
    rw [or_1413 o (by omega), h3, h1] at this
    exact this
  rw [ho8e] at hr7
  have H1 := Lib.hid h1
  have H2 := Lib.hid h2
  have H3 := Lib.hid h3
  have hc6 : ¬ (c = 6) := by omega
  have htt' : (tt : Int) ≤ 255 := by omega
  have hpr' : (pr : Int) ≤ 255 := by omega
  have hc12 : ¬ (c = 12) := by omega
  have hc16 : ¬ (c = 16) := by omega
  have hc10 : ¬ (c = 10) := by omega
  clear h1 h2 h3 ho8e
  cases df <;> cases mf
  all_goals
    go_wp2_with fail
    refine region_draws_tail 4 (by kernel_rfl) (by kernel_rfl) ?_
    simp only [List.take_succ_cons, List.take_zero, List.drop_succ_cons, List.drop_zero]
    repeat (go_big_quiet_step (fail))
    refine wpQuiet_nil ?_
    rintro _ ⟨nq, rfl⟩
    go_wp2_with (first | (go_at_call 17; refine (put0_any g n c _ 4 i _ _ _ (ho7.keeps ((Keeps.refl (fun _ => False) _).drewN _) (fun _ _ h => h)) (by simp) hi rfl).mono ?_; rintro e w6 ⟨⟨x, rfl⟩, ho8, hk8⟩; have hr8 := (hr7.drewN nq).keeps hk8 hne; have hk8' := (hk7'.drewN nq).from hk8 hgS; have c6 : w6.cell? ⟨w.heap.size, 6, none⟩ = some (.int .i64 (o8 : Int)) := hr8.cell 6; have c4 := hr8.cell 4; have c5 := hr8.cell 5; simp only [p4cells, List.getElem?_toArray, List.getElem?_cons_succ, List.getElem?_cons_zero] at c4 c5; clear hr7 hk7' hk8 ho7 c1 w5) | (go_at_call 17; refine (put0_any g n c _ 6 _ _ _ _ ho8 (by simp) (by first | omega | (have := H1.out; omega) | (have := H2.out; omega) | (have := H3.out; omega)) rfl).mono ?_; rintro e w7 ⟨⟨x, rfl⟩, ho9, hk9⟩; have hr9 := hr8.keeps hk9 hne; have hk9' := hk8'.from hk9 hgS; have c2 : w7.cell? ⟨w.heap.size, 2, none⟩ = some (.int .i64 tt) := hr9.cell 2; have c3 : w7.cell? ⟨w.heap.size, 3, none⟩ = some (.int .i64 pr) := hr9.cell 3; (obtain ⟨⟨y8, a1⟩, a2, ho10⟩ := at0 ho9 8 (by simp) (UInt8.ofNat tt) (ofNat_int tt htt) rfl); (obtain ⟨⟨y9, b1⟩, b2, ho11⟩ := at0 ho10 9 (by simp) (UInt8.ofNat pr) (ofNat_int pr hpr) rfl); clear hr8 hk8' hk9 ho8 c6 c4 c5))
  · obtain ⟨w8, hw8, ho12, hr12, hk12⟩ : ∃ w8, ((w7.setCell ⟨g, 8, none⟩ (.int .u8 ↑tt)).setCell ⟨g, 9, none⟩ (.int .u8 ↑pr)) = w8 ∧
        BOwn w8 w.heap.size (.slice (some ⟨g, 0, none⟩) n c) ([X0, UInt8.ofNat t, UInt8.ofNat (c / 256), UInt8.ofNat (c % 256), UInt8.ofNat (i / 256), UInt8.ofNat (i % 256), UInt8.ofNat (o / 256), UInt8.ofNat (o % 256), UInt8.ofNat tt, UInt8.ofNat pr, 0, 0, 0, 0, 0, 0, 0, 0, 0, 0] ++ T) ∧
        RowAt w8 w.heap.size (p4cells ⟨t, i, tt, pr, false, false, (o8 : Int), src, dst, opt, data⟩ (.slice da data.length dc)) 24 ∧ Keeps (fun _ => False) w w8 :=
      ⟨_, rfl, ho11, (hr9.setOther _ _ hne).setOther _ _ hne, (hk9'.setCell _ _ (.inr hge)).setCell _ _ (.inr hge)⟩
    have hM : offN false false o = o := rfl
    have HM := Lib.hid hM
    rw [hw8]
    clear hM hw8 ho11 ho10 ho9 hr9 hk9' a1 a2 b1 b2 c2 c3 r1 r2 r3
    have c7 : w8.cell? ⟨w.heap.size, 7, none⟩ = some (.string ⟨src.toArray⟩) := hr12.cell 7
    refine region_draws_tail 4 (by kernel_rfl) (by kernel_rfl) ?_
    simp only [List.take_succ_cons, List.take_zero, List.drop_succ_cons, List.drop_zero]
    repeat (go_big_quiet_step (fail))
    refine wpQuiet_nil ?_
    rintro _ ⟨nq, rfl⟩
    obtain ⟨w9, hrun9, ho13, hk13⟩ := copy_str (ty := 3) 12 (n - 12) (c - 12) (some ⟨g, 12, none⟩) src (ho12.keeps ((Keeps.refl (fun _ => False) _).drewN nq) (fun _ _ h => h)) (by simp; omega) (by omega) (fun _ => by rw [Nat.zero_add])
    have hr13 := (hr12.drewN nq).keeps hk13 hne
    have hk13' := (hk12.drewN nq).from hk13 hgS
    rw [hs] at ho13
    have ho14 : BOwn w9 w.heap.size (.slice (some ⟨g, 0, none⟩) n c) ([X0, UInt8.ofNat t, UInt8.ofNat (c / 256), UInt8.ofNat (c % 256), UInt8.ofNat (i / 256), UInt8.ofNat (i % 256), UInt8.ofNat (o / 256), UInt8.ofNat (o % 256), UInt8.ofNat tt, UInt8.ofNat pr, 0, 0, s0, s1, s2, s3, 0, 0, 0, 0] ++ T) := by
      have h := ho13
      rw [HS.out] at h
      exact h
    have HR9 := Lib.hid hrun9
    have c8 : w9.cell? ⟨w.heap.size, 8, none⟩ = some (.string ⟨dst.toArray⟩) := hr13.cell 8
    clear hrun9 ho13 ho12 hk12 hk13 hr12 c7
    refine Lib.wpList_copy_run _ rfl _ _ _ _ rfl _ _ rfl rfl HR9.out ?_
    simp only [Act.put, List.setIfInBounds_toArray, List.set_cons_zero, List.set_cons_succ]
    go_wp2_with fail
    refine region_draws_tail 4 (by kernel_rfl) (by kernel_rfl) ?_
    simp only [List.take_succ_cons, List.take_zero, List.drop_succ_cons, List.drop_zero]
    repeat (go_big_quiet_step (fail))
    refine wpQuiet_nil ?_
    rintro _ ⟨nq, rfl⟩
    obtain ⟨w10, hrun10, ho15, hk15⟩ := copy_str (ty := 3) 16 (n - 16) (c - 16) (some ⟨g, 16, none⟩) dst (ho14.keeps ((Keeps.refl (fun _ => False) _).drewN nq) (fun _ _ h => h)) (by simp; omega) (by omega) (fun _ => by rw [Nat.zero_add])
    have hr15 := (hr13.drewN nq).keeps hk15 hne
    have hk15' := (hk13'.drewN nq).from hk15 hgS
    rw [hds] at ho15
    have ho16 : BOwn w10 w.heap.size (.slice (some ⟨g, 0, none⟩) n c) ([X0, UInt8.ofNat t, UInt8.ofNat (c / 256), UInt8.ofNat (c % 256), UInt8.ofNat (i / 256), UInt8.ofNat (i % 256), UInt8.ofNat (o / 256), UInt8.ofNat (o % 256), UInt8.ofNat tt, UInt8.ofNat pr, 0, 0, s0, s1, s2, s3, d0, d1, d2, d3] ++ T) := by
      have h := ho15
      rw [HD.out] at h
      exact h
    have HR10 := Lib.hid hrun10
    have c9 : w10.cell? ⟨w.heap.size, 9, none⟩ = some (.string ⟨opt.toArray⟩) := hr15.cell 9
    clear hrun10 ho15 ho14 hk13' hk15 hr13 c8
    refine Lib.wpList_copy_run _ rfl _ _ _ _ rfl _ _ rfl rfl HR10.out ?_
    simp only [Act.put, List.setIfInBounds_toArray, List.set_cons_zero, List.set_cons_succ]
    go_wp2_with fail
    obtain ⟨a2, ha2⟩ : ∃ a2, (if c = 20 then (some ⟨g, 0, none⟩ : Option Addr) else some ⟨g, 20, none⟩) = a2 := ⟨_, rfl⟩
    refine region_draws_tail 4 (by kernel_rfl) (by kernel_rfl) ?_
    simp only [List.take_succ_cons, List.take_zero, List.drop_succ_cons, List.drop_zero]
    repeat (go_big_quiet_step (fail))
    refine wpQuiet_nil ?_
    rintro _ ⟨nq, rfl⟩
    obtain ⟨w11, hrun11, ho17, hk17⟩ := copy_str (ty := 3) 20 (n - 20) (c - 20) a2 opt (ho16.keeps ((Keeps.refl (fun _ => False) _).drewN nq) (fun _ _ h => h)) (by simp [hTl]; omega) (by have := HN.out; omega) (fun h0 => by
      have h1 := List.length_pos_iff.2 h0
      have h2 := HN.out
      rw [← ha2, if_neg (by omega), Nat.zero_add])
    have hr17 := (hr15.drewN nq).keeps hk17 hne
    have hk17' := (hk15'.drewN nq).from hk17 hgS
    obtain ⟨L, hL⟩ : ∃ L, [X0, UInt8.ofNat t, UInt8.ofNat (c / 256), UInt8.ofNat (c % 256), UInt8.ofNat (i / 256), UInt8.ofNat (i % 256), UInt8.ofNat (o / 256), UInt8.ofNat (o % 256), UInt8.ofNat tt, UInt8.ofNat pr, 0, 0, s0, s1, s2, s3, d0, d1, d2, d3] ++ opt = L := ⟨_, rfl⟩
    have ho18 : BOwn w11 w.heap.size (.slice (some ⟨g, 0, none⟩) n c) L := by
      have h := ho17
      rw [← hTl] at h
      have e : ∀ (A : List UInt8), A.length = 20 → (A ++ T).take 20 ++ opt ++ (A ++ T).drop (20 + T.length) = A ++ opt := fun A hA => by
        rw [List.take_append_of_le_length (by omega), List.take_of_length_le (by omega), List.drop_of_length_le (by rw [List.length_append]; omega), List.append_nil]
      rw [e _ rfl, hL] at h
      exact h
    have HR11 := Lib.hid hrun11
    have HL := Lib.hid hL
    have hLl : 12 ≤ L.length := by rw [← hL]; simp
    obtain ⟨CC, hCC⟩ : ∃ CC, 65535 - sum16 L = CC := ⟨_, rfl⟩
    have hchk : ∀ m, Calls Tryd.prog 18 #[.slice (some ⟨g, 0, none⟩) n c] (w11.drewN m) fun e w' => e = .returned (.int .i64 (CC : Int)) ∧ w11.drewN m = w' := fun m => by
      refine (check_any _ L _ (BRd.keeps (l := L) ho18.bat.low ((Keeps.refl _ _).drewN m))).mono ?_
      rintro e w' ⟨rfl, h⟩
      exact ⟨ret_int (by have := sum16_le L; omega), h⟩
    have HCC := Lib.hid hCC
    clear hrun11 ho17 ho16 hk15' hk17 hr15 c9 hL hCC
    refine Lib.wpList_copy_run _ rfl _ _ _ _ rfl _ _ rfl rfl HR11.out ?_
    simp only [Act.put, List.setIfInBounds_toArray, List.set_cons_zero, List.set_cons_succ]
    clear ha2
    go_wp2_with fail
    refine region_draws_tail 4 (by kernel_rfl) (by kernel_rfl) ?_
    simp only [List.take_succ_cons, List.take_zero, List.drop_succ_cons, List.drop_zero]
    repeat (go_big_quiet_step ((with_reducible exact quiet_same (hchk _))))
    refine wpQuiet_nil ?_
    rintro _ ⟨nq, rfl⟩
    have hd12 := hd2
    go_wp2_with (first | (go_at_call 17; refine (put0_any g n c _ 10 CC _ _ _ (ho18.keeps ((Keeps.refl (fun _ => False) _).drewN _) (fun _ _ h => h)) (by omega) (by have := HCC.out; omega) rfl).mono ?_; rintro e w12 ⟨⟨x, rfl⟩, ho19, hk19⟩; have hr19 := (hr17.drewN nq).keeps hk19 hne; have hk19' := (hk17'.drewN nq).from hk19 hgS; have c10 : w12.cell? ⟨w.heap.size, 10, none⟩ = some (.slice da data.length dc) := hr19.cell 10; (obtain ⟨v13, w13, hrun13, ho20, hk20, -⟩ := run_append_bytes (ty := 22) ho19 (hd.keeps hk19') (by rw [List.length_set, List.length_set, ← HL.out, List.length_append]; simp only [List.length_cons, List.length_nil]; omega) (by have := hk19'.size; omega)); (have HR13 := Lib.hid hrun13); clear hrun13 hr17 hk17' ho18 hchk) | (at_builtin; refine Lib.wpList_append_run _ rfl _ _ _ _ rfl _ _ rfl rfl _ _ HR13.out ?_))
    go_ret2
    have hfin : ((L.set 10 (UInt8.ofNat (CC / 256))).set (10 + 1) (UInt8.ofNat (CC % 256))) ++ data = bytesN t i tt pr o false false src dst opt data := by
      have ec : 20 + opt.length + data.length = c := by have := HN.out; have := HC.out; omega
      rw [← HCC.out, ← HL.out]
      unfold bytesN hdN hd10 fr10 b2
      rw [ec, HH.out, HX0.out, HM.out, HS.out, HD.out]
      simp only [List.cons_append, List.nil_append, List.set_cons_succ, List.set_cons_zero]
    rw [hfin] at ho20
    exact ⟨_, rfl, ho20, hk19'.from hk20 (fun b hb => (ho19.block b hb).1)⟩
  · obtain ⟨w8, hw8, ho12, hr12, hk12⟩ : ∃ w8, ((w7.setCell ⟨g, 8, none⟩ (.int .u8 ↑tt)).setCell ⟨g, 9, none⟩ (.int .u8 ↑pr)) = w8 ∧
        BOwn w8 w.heap.size (.slice (some ⟨g, 0, none⟩) n c) ([X0, UInt8.ofNat t, UInt8.ofNat (c / 256), UInt8.ofNat (c % 256), UInt8.ofNat (i / 256), UInt8.ofNat (i % 256), UInt8.ofNat (o2 / 256), UInt8.ofNat (o2 % 256), UInt8.ofNat tt, UInt8.ofNat pr, 0, 0, 0, 0, 0, 0, 0, 0, 0, 0] ++ T) ∧
        RowAt w8 w.heap.size (p4cells ⟨t, i, tt, pr, false, true, (o8 : Int), src, dst, opt, data⟩ (.slice da data.length dc)) 24 ∧ Keeps (fun _ => False) w w8 :=
      ⟨_, rfl, ho11, (hr9.setOther _ _ hne).setOther _ _ hne, (hk9'.setCell _ _ (.inr hge)).setCell _ _ (.inr hge)⟩
    have hM : offN false true o = o2 := H2.out
    have HM := Lib.hid hM
    rw [hw8]
    clear hM hw8 ho11 ho10 ho9 hr9 hk9' a1 a2 b1 b2 c2 c3 r1 r2 r3
    have c7 : w8.cell? ⟨w.heap.size, 7, none⟩ = some (.string ⟨src.toArray⟩) := hr12.cell 7
    refine region_draws_tail 4 (by kernel_rfl) (by kernel_rfl) ?_
    simp only [List.take_succ_cons, List.take_zero, List.drop_succ_cons, List.drop_zero]
    repeat (go_big_quiet_step (fail))
    refine wpQuiet_nil ?_
    rintro _ ⟨nq, rfl⟩
    obtain ⟨w9, hrun9, ho13, hk13⟩ := copy_str (ty := 3) 12 (n - 12) (c - 12) (some ⟨g, 12, none⟩) src (ho12.keeps ((Keeps.refl (fun _ => False) _).drewN nq) (fun _ _ h => h)) (by simp; omega) (by omega) (fun _ => by rw [Nat.zero_add])
    have hr13 := (hr12.drewN nq).keeps hk13 hne
    have hk13' := (hk12.drewN nq).from hk13 hgS
    rw [hs] at ho13
    have ho14 : BOwn w9 w.heap.size (.slice (some ⟨g, 0, none⟩) n c) ([X0, UInt8.ofNat t, UInt8.ofNat (c / 256), UInt8.ofNat (c % 256), UInt8.ofNat (i / 256), UInt8.ofNat (i % 256), UInt8.ofNat (o2 / 256), UInt8.ofNat (o2 % 256), UInt8.ofNat tt, UInt8.ofNat pr, 0, 0, s0, s1, s2, s3, 0, 0, 0, 0] ++ T) := by
      have h := ho13
      rw [HS.out] at h
      exact h
    have HR9 := Lib.hid hrun9
    have c8 : w9.cell? ⟨w.heap.size, 8, none⟩ = some (.string ⟨dst.toArray⟩) := hr13.cell 8
    clear hrun9 ho13 ho12 hk12 hk13 hr12 c7
    refine Lib.wpList_copy_run _ rfl _ _ _ _ rfl _ _ rfl rfl HR9.out ?_
    simp only [Act.put, List.setIfInBounds_toArray, List.set_cons_zero, List.set_cons_succ]
    go_wp2_with fail
    refine region_draws_tail 4 (by kernel_rfl) (by kernel_rfl) ?_
    simp only [List.take_succ_cons, List.take_zero, List.drop_succ_cons, List.drop_zero]
    repeat (go_big_quiet_step (fail))
    refine wpQuiet_nil ?_
    rintro _ ⟨nq, rfl⟩
    obtain ⟨w10, hrun10, ho15, hk15⟩ := copy_str (ty := 3) 16 (n - 16) (c - 16) (some ⟨g, 16, none⟩) dst (ho14.keeps ((Keeps.refl (fun _ => False) _).drewN nq) (fun _ _ h => h)) (by simp; omega) (by omega) (fun _ => by rw [Nat.zero_add])
    have hr15 := (hr13.drewN nq).keeps hk15 hne
    have hk15' := (hk13'.drewN nq).from hk15 hgS
    rw [hds] at ho15
    have ho16 : BOwn w10 w.heap.size (.slice (some ⟨g, 0, none⟩) n c) ([X0, UInt8.ofNat t, UInt8.ofNat (c / 256), UInt8.ofNat (c % 256), UInt8.ofNat (i / 256), UInt8.ofNat (i % 256), UInt8.ofNat (o2 / 256), UInt8.ofNat (o2 % 256), UInt8.ofNat tt, UInt8.ofNat pr, 0, 0, s0, s1, s2, s3, d0, d1, d2, d3] ++ T) := by
      have h := ho15
      rw [HD.out] at h
      exact h
    have HR10 := Lib.hid hrun10
    have c9 : w10.cell? ⟨w.heap.size, 9, none⟩ = some (.string ⟨opt.toArray⟩) := hr15.cell 9
    clear hrun10 ho15 ho14 hk13' hk15 hr13 c8
    refine Lib.wpList_copy_run _ rfl _ _ _ _ rfl _ _ rfl rfl HR10.out ?_
    simp only [Act.put, List.setIfInBounds_toArray, List.set_cons_zero, List.set_cons_succ]
    go_wp2_with fail
    obtain ⟨a2, ha2⟩ : ∃ a2, (if c = 20 then (some ⟨g, 0, none⟩ : Option Addr) else some ⟨g, 20, none⟩) = a2 := ⟨_, rfl⟩
    refine region_draws_tail 4 (by kernel_rfl) (by kernel_rfl) ?_
    simp only [List.take_succ_cons, List.take_zero, List.drop_succ_cons, List.drop_zero]
    repeat (go_big_quiet_step (fail))
    refine wpQuiet_nil ?_
    rintro _ ⟨nq, rfl⟩
    obtain ⟨w11, hrun11, ho17, hk17⟩ := copy_str (ty := 3) 20 (n - 20) (c - 20) a2 opt (ho16.keeps ((Keeps.refl (fun _ => False) _).drewN nq) (fun _ _ h => h)) (by simp [hTl]; omega) (by have := HN.out; omega) (fun h0 => by
      have h1 := List.length_pos_iff.2 h0
      have h2 := HN.out
      rw [← ha2, if_neg (by omega), Nat.zero_add])
    have hr17 := (hr15.drewN nq).keeps hk17 hne
    have hk17' := (hk15'.drewN nq).from hk17 hgS
    obtain ⟨L, hL⟩ : ∃ L, [X0, UInt8.ofNat t, UInt8.ofNat (c / 256), UInt8.ofNat (c % 256), UInt8.ofNat (i / 256), UInt8.ofNat (i % 256), UInt8.ofNat (o2 / 256), UInt8.ofNat (o2 % 256), UInt8.ofNat tt, UInt8.ofNat pr, 0, 0, s0, s1, s2, s3, d0, d1, d2, d3] ++ opt = L := ⟨_, rfl⟩
    have ho18 : BOwn w11 w.heap.size (.slice (some ⟨g, 0, none⟩) n c) L := by
      have h := ho17
      rw [← hTl] at h
      have e : ∀ (A : List UInt8), A.length = 20 → (A ++ T).take 20 ++ opt ++ (A ++ T).drop (20 + T.length) = A ++ opt := fun A hA => by
        rw [List.take_append_of_le_length (by omega), List.take_of_length_le (by omega), List.drop_of_length_le (by rw [List.length_append]; omega), List.append_nil]
      rw [e _ rfl, hL] at h
      exact h
    have HR11 := Lib.hid hrun11
    have HL := Lib.hid hL
    have hLl : 12 ≤ L.length := by rw [← hL]; simp
    obtain ⟨CC, hCC⟩ : ∃ CC, 65535 - sum16 L = CC := ⟨_, rfl⟩
    have hchk : ∀ m, Calls Tryd.prog 18 #[.slice (some ⟨g, 0, none⟩) n c] (w11.drewN m) fun e w' => e = .returned (.int .i64 (CC : Int)) ∧ w11.drewN m = w' := fun m => by
      refine (check_any _ L _ (BRd.keeps (l := L) ho18.bat.low ((Keeps.refl _ _).drewN m))).mono ?_
      rintro e w' ⟨rfl, h⟩
      exact ⟨ret_int (by have := sum16_le L; omega), h⟩
    have HCC := Lib.hid hCC
    clear hrun11 ho17 ho16 hk15' hk17 hr15 c9 hL hCC
    refine Lib.wpList_copy_run _ rfl _ _ _ _ rfl _ _ rfl rfl HR11.out ?_
    simp only [Act.put, List.setIfInBounds_toArray, List.set_cons_zero, List.set_cons_succ]
    clear ha2
    go_wp2_with fail
    refine region_draws_tail 4 (by kernel_rfl) (by kernel_rfl) ?_
    simp only [List.take_succ_cons, List.take_zero, List.drop_succ_cons, List.drop_zero]
    repeat (go_big_quiet_step ((with_reducible exact quiet_same (hchk _))))
    refine wpQuiet_nil ?_
    rintro _ ⟨nq, rfl⟩
    have hd12 := hd2
    go_wp2_with (first | (go_at_call 17; refine (put0_any g n c _ 10 CC _ _ _ (ho18.keeps ((Keeps.refl (fun _ => False) _).drewN _) (fun _ _ h => h)) (by omega) (by have := HCC.out; omega) rfl).mono ?_; rintro e w12 ⟨⟨x, rfl⟩, ho19, hk19⟩; have hr19 := (hr17.drewN nq).keeps hk19 hne; have hk19' := (hk17'.drewN nq).from hk19 hgS; have c10 : w12.cell? ⟨w.heap.size, 10, none⟩ = some (.slice da data.length dc) := hr19.cell 10; (obtain ⟨v13, w13, hrun13, ho20, hk20, -⟩ := run_append_bytes (ty := 22) ho19 (hd.keeps hk19') (by rw [List.length_set, List.length_set, ← HL.out, List.length_append]; simp only [List.length_cons, List.length_nil]; omega) (by have := hk19'.size; omega)); (have HR13 := Lib.hid hrun13); clear hrun13 hr17 hk17' ho18 hchk) | (at_builtin; refine Lib.wpList_append_run _ rfl _ _ _ _ rfl _ _ rfl rfl _ _ HR13.out ?_))
    go_ret2
    have hfin : ((L.set 10 (UInt8.ofNat (CC / 256))).set (10 + 1) (UInt8.ofNat (CC % 256))) ++ data = bytesN t i tt pr o false true src dst opt data := by
      have ec : 20 + opt.length + data.length = c := by have := HN.out; have := HC.out; omega
      rw [← HCC.out, ← HL.out]
      unfold bytesN hdN hd10 fr10 b2
      rw [ec, HH.out, HX0.out, HM.out, HS.out, HD.out]
      simp only [List.cons_append, List.nil_append, List.set_cons_succ, List.set_cons_zero]
    rw [hfin] at ho20
    exact ⟨_, rfl, ho20, hk19'.from hk20 (fun b hb => (ho19.block b hb).1)⟩
  · obtain ⟨w8, hw8, ho12, hr12, hk12⟩ : ∃ w8, ((w7.setCell ⟨g, 8, none⟩ (.int .u8 ↑tt)).setCell ⟨g, 9, none⟩ (.int .u8 ↑pr)) = w8 ∧
        BOwn w8 w.heap.size (.slice (some ⟨g, 0, none⟩) n c) ([X0, UInt8.ofNat t, UInt8.ofNat (c / 256), UInt8.ofNat (c % 256), UInt8.ofNat (i / 256), UInt8.ofNat (i % 256), UInt8.ofNat (o1 / 256), UInt8.ofNat (o1 % 256), UInt8.ofNat tt, UInt8.ofNat pr, 0, 0, 0, 0, 0, 0, 0, 0, 0, 0] ++ T) ∧
        RowAt w8 w.heap.size (p4cells ⟨t, i, tt, pr, true, false, (o8 : Int), src, dst, opt, data⟩ (.slice da data.length dc)) 24 ∧ Keeps (fun _ => False) w w8 :=
      ⟨_, rfl, ho11, (hr9.setOther _ _ hne).setOther _ _ hne, (hk9'.setCell _ _ (.inr hge)).setCell _ _ (.inr hge)⟩
    have hM : offN true false o = o1 := H1.out
    have HM := Lib.hid hM
    rw [hw8]
    clear hM hw8 ho11 ho10 ho9 hr9 hk9' a1 a2 b1 b2 c2 c3 r1 r2 r3
    have c7 : w8.cell? ⟨w.heap.size, 7, none⟩ = some (.string ⟨src.toArray⟩) := hr12.cell 7
    refine region_draws_tail 4 (by kernel_rfl) (by kernel_rfl) ?_
    simp only [List.take_succ_cons, List.take_zero, List.drop_succ_cons, List.drop_zero]
    repeat (go_big_quiet_step (fail))
    refine wpQuiet_nil ?_
    rintro _ ⟨nq, rfl⟩
    obtain ⟨w9, hrun9, ho13, hk13⟩ := copy_str (ty := 3) 12 (n - 12) (c - 12) (some ⟨g, 12, none⟩) src (ho12.keeps ((Keeps.refl (fun _ => False) _).drewN nq) (fun _ _ h => h)) (by simp; omega) (by omega) (fun _ => by rw [Nat.zero_add])
    have hr13 := (hr12.drewN nq).keeps hk13 hne
    have hk13' := (hk12.drewN nq).from hk13 hgS
    rw [hs] at ho13
    have ho14 : BOwn w9 w.heap.size (.slice (some ⟨g, 0, none⟩) n c) ([X0, UInt8.ofNat t, UInt8.ofNat (c / 256), UInt8.ofNat (c % 256), UInt8.ofNat (i / 256), UInt8.ofNat (i % 256), UInt8.ofNat (o1 / 256), UInt8.ofNat (o1 % 256), UInt8.ofNat tt, UInt8.ofNat pr, 0, 0, s0, s1, s2, s3, 0, 0, 0, 0] ++ T) := by
      have h := ho13
      rw [HS.out] at h
      exact h
    have HR9 := Lib.hid hrun9
    have c8 : w9.cell? ⟨w.heap.size, 8, none⟩ = some (.string ⟨dst.toArray⟩) := hr13.cell 8
    clear hrun9 ho13 ho12 hk12 hk13 hr12 c7
    refine Lib.wpList_copy_run _ rfl _ _ _ _ rfl _ _ rfl rfl HR9.out ?_
    simp only [Act.put, List.setIfInBounds_toArray, List.set_cons_zero, List.set_cons_succ]
    go_wp2_with fail
    refine region_draws_tail 4 (by kernel_rfl) (by kernel_rfl) ?_
    simp only [List.take_succ_cons, List.take_zero, List.drop_succ_cons, List.drop_zero]
    repeat (go_big_quiet_step (fail))
    refine wpQuiet_nil ?_
    rintro _ ⟨nq, rfl⟩
    obtain ⟨w10, hrun10, ho15, hk15⟩ := copy_str (ty := 3) 16 (n - 16) (c - 16) (some ⟨g, 16, none⟩) dst (ho14.keeps ((Keeps.refl (fun _ => False) _).drewN nq) (fun _ _ h => h)) (by simp; omega) (by omega) (fun _ => by rw [Nat.zero_add])
    have hr15 := (hr13.drewN nq).keeps hk15 hne
    have hk15' := (hk13'.drewN nq).from hk15 hgS
    rw [hds] at ho15
    have ho16 : BOwn w10 w.heap.size (.slice (some ⟨g, 0, none⟩) n c) ([X0, UInt8.ofNat t, UInt8.ofNat (c / 256), UInt8.ofNat (c % 256), UInt8.ofNat (i / 256), UInt8.ofNat (i % 256), UInt8.ofNat (o1 / 256), UInt8.ofNat (o1 % 256), UInt8.ofNat tt, UInt8.ofNat pr, 0, 0, s0, s1, s2, s3, d0, d1, d2, d3] ++ T) := by
      have h := ho15
      rw [HD.out] at h
      exact h
    have HR10 := Lib.hid hrun10
    have c9 : w10.cell? ⟨w.heap.size, 9, none⟩ = some (.string ⟨opt.toArray⟩) := hr15.cell 9
    clear hrun10 ho15 ho14 hk13' hk15 hr13 c8
    refine Lib.wpList_copy_run _ rfl _ _ _ _ rfl _ _ rfl rfl HR10.out ?_
    simp only [Act.put, List.setIfInBounds_toArray, List.set_cons_zero, List.set_cons_succ]
    go_wp2_with fail
    obtain ⟨a2, ha2⟩ : ∃ a2, (if c = 20 then (some ⟨g, 0, none⟩ : Option Addr) else some ⟨g, 20, none⟩) = a2 := ⟨_, rfl⟩
    refine region_draws_tail 4 (by kernel_rfl) (by kernel_rfl) ?_
    simp only [List.take_succ_cons, List.take_zero, List.drop_succ_cons, List.drop_zero]
    repeat (go_big_quiet_step (fail))
    refine wpQuiet_nil ?_
    rintro _ ⟨nq, rfl⟩
    obtain ⟨w11, hrun11, ho17, hk17⟩ := copy_str (ty := 3) 20 (n - 20) (c - 20) a2 opt (ho16.keeps ((Keeps.refl (fun _ => False) _).drewN nq) (fun _ _ h => h)) (by simp [hTl]; omega) (by have := HN.out; omega) (fun h0 => by
      have h1 := List.length_pos_iff.2 h0
      have h2 := HN.out
      rw [← ha2, if_neg (by omega), Nat.zero_add])
    have hr17 := (hr15.drewN nq).keeps hk17 hne
    have hk17' := (hk15'.drewN nq).from hk17 hgS
    obtain ⟨L, hL⟩ : ∃ L, [X0, UInt8.ofNat t, UInt8.ofNat (c / 256), UInt8.ofNat (c % 256), UInt8.ofNat (i / 256), UInt8.ofNat (i % 256), UInt8.ofNat (o1 / 256), UInt8.ofNat (o1 % 256), UInt8.ofNat tt, UInt8.ofNat pr, 0, 0, s0, s1, s2, s3, d0, d1, d2, d3] ++ opt = L := ⟨_, rfl⟩
    have ho18 : BOwn w11 w.heap.size (.slice (some ⟨g, 0, none⟩) n c) L := by
      have h := ho17
      rw [← hTl] at h
      have e : ∀ (A : List UInt8), A.length = 20 → (A ++ T).take 20 ++ opt ++ (A ++ T).drop (20 + T.length) = A ++ opt := fun A hA => by
        rw [List.take_append_of_le_length (by omega), List.take_of_length_le (by omega), List.drop_of_length_le (by rw [List.length_append]; omega), List.append_nil]
      rw [e _ rfl, hL] at h
      exact h
    have HR11 := Lib.hid hrun11
    have HL := Lib.hid hL
    have hLl : 12 ≤ L.length := by rw [← hL]; simp
    obtain ⟨CC, hCC⟩ : ∃ CC, 65535 - sum16 L = CC := ⟨_, rfl⟩
    have hchk : ∀ m, Calls Tryd.prog 18 #[.slice (some ⟨g, 0, none⟩) n c] (w11.drewN m) fun e w' => e = .returned (.int .i64 (CC : Int)) ∧ w11.drewN m = w' := fun m => by
      refine (check_any _ L _ (BRd.keeps (l := L) ho18.bat.low ((Keeps.refl _ _).drewN m))).mono ?_
      rintro e w' ⟨rfl, h⟩
      exact ⟨ret_int (by have := sum16_le L; omega), h⟩
    have HCC := Lib.hid hCC
    clear hrun11 ho17 ho16 hk15' hk17 hr15 c9 hL hCC
    refine Lib.wpList_copy_run _ rfl _ _ _ _ rfl _ _ rfl rfl HR11.out ?_
    simp only [Act.put, List.setIfInBounds_toArray, List.set_cons_zero, List.set_cons_succ]
    clear ha2
    go_wp2_with fail
    refine region_draws_tail 4 (by kernel_rfl) (by kernel_rfl) ?_
    simp only [List.take_succ_cons, List.take_zero, List.drop_succ_cons, List.drop_zero]
    repeat (go_big_quiet_step ((with_reducible exact quiet_same (hchk _))))
    refine wpQuiet_nil ?_
    rintro _ ⟨nq, rfl⟩
    have hd12 := hd2
    go_wp2_with (first | (go_at_call 17; refine (put0_any g n c _ 10 CC _ _ _ (ho18.keeps ((Keeps.refl (fun _ => False) _).drewN _) (fun _ _ h => h)) (by omega) (by have := HCC.out; omega) rfl).mono ?_; rintro e w12 ⟨⟨x, rfl⟩, ho19, hk19⟩; have hr19 := (hr17.drewN nq).keeps hk19 hne; have hk19' := (hk17'.drewN nq).from hk19 hgS; have c10 : w12.cell? ⟨w.heap.size, 10, none⟩ = some (.slice da data.length dc) := hr19.cell 10; (obtain ⟨v13, w13, hrun13, ho20, hk20, -⟩ := run_append_bytes (ty := 22) ho19 (hd.keeps hk19') (by rw [List.length_set, List.length_set, ← HL.out, List.length_append]; simp only [List.length_cons, List.length_nil]; omega) (by have := hk19'.size; omega)); (have HR13 := Lib.hid hrun13); clear hrun13 hr17 hk17' ho18 hchk) | (at_builtin; refine Lib.wpList_append_run _ rfl _ _ _ _ rfl _ _ rfl rfl _ _ HR13.out ?_))
    go_ret2
    have hfin : ((L.set 10 (UInt8.ofNat (CC / 256))).set (10 + 1) (UInt8.ofNat (CC % 256))) ++ data = bytesN t i tt pr o true false src dst opt data := by
      have ec : 20 + opt.length + data.length = c := by have := HN.out; have := HC.out; omega
      rw [← HCC.out, ← HL.out]
      unfold bytesN hdN hd10 fr10 b2
      rw [ec, HH.out, HX0.out, HM.out, HS.out, HD.out]
      simp only [List.cons_append, List.nil_append, List.set_cons_succ, List.set_cons_zero]
    rw [hfin] at ho20
    exact ⟨_, rfl, ho20, hk19'.from hk20 (fun b hb => (ho19.block b hb).1)⟩
  · obtain ⟨w8, hw8, ho12, hr12, hk12⟩ : ∃ w8, ((w7.setCell ⟨g, 8, none⟩ (.int .u8 ↑tt)).setCell ⟨g, 9, none⟩ (.int .u8 ↑pr)) = w8 ∧
        BOwn w8 w.heap.size (.slice (some ⟨g, 0, none⟩) n c) ([X0, UInt8.ofNat t, UInt8.ofNat (c / 256), UInt8.ofNat (c % 256), UInt8.ofNat (i / 256), UInt8.ofNat (i % 256), UInt8.ofNat (o3 / 256), UInt8.ofNat (o3 % 256), UInt8.ofNat tt, UInt8.ofNat pr, 0, 0, 0, 0, 0, 0, 0, 0, 0, 0] ++ T) ∧
        RowAt w8 w.heap.size (p4cells ⟨t, i, tt, pr, true, true, (o8 : Int), src, dst, opt, data⟩ (.slice da data.length dc)) 24 ∧ Keeps (fun _ => False) w w8 :=
      ⟨_, rfl, ho11, (hr9.setOther _ _ hne).setOther _ _ hne, (hk9'.setCell _ _ (.inr hge)).setCell _ _ (.inr hge)⟩
    have hM : offN true true o = o3 := H3.out
    have HM := Lib.hid hM
    rw [hw8]
    clear hM hw8 ho11 ho10 ho9 hr9 hk9' a1 a2 b1 b2 c2 c3 r1 r2 r3
    have c7 : w8.cell? ⟨w.heap.size, 7, none⟩ = some (.string ⟨src.toArray⟩) := hr12.cell 7
    refine region_draws_tail 4 (by kernel_rfl) (by kernel_rfl) ?_
    simp only [List.take_succ_cons, List.take_zero, List.drop_succ_cons, List.drop_zero]
    repeat (go_big_quiet_step (fail))
    refine wpQuiet_nil ?_
    rintro _ ⟨nq, rfl⟩
    obtain ⟨w9, hrun9, ho13, hk13⟩ := copy_str (ty := 3) 12 (n - 12) (c - 12) (some ⟨g, 12, none⟩) src (ho12.keeps ((Keeps.refl (fun _ => False) _).drewN nq) (fun _ _ h => h)) (by simp; omega) (by omega) (fun _ => by rw [Nat.zero_add])
    have hr13 := (hr12.drewN nq).keeps hk13 hne
    have hk13' := (hk12.drewN nq).from hk13 hgS
    rw [hs] at ho13
    have ho14 : BOwn w9 w.heap.size (.slice (some ⟨g, 0, none⟩) n c) ([X0, UInt8.ofNat t, UInt8.ofNat (c / 256), UInt8.ofNat (c % 256), UInt8.ofNat (i / 256), UInt8.ofNat (i % 256), UInt8.ofNat (o3 / 256), UInt8.ofNat (o3 % 256), UInt8.ofNat tt, UInt8.ofNat pr, 0, 0, s0, s1, s2, s3, 0, 0, 0, 0] ++ T) := by
      have h := ho13
      rw [HS.out] at h
      exact h
    have HR9 := Lib.hid hrun9
    have c8 : w9.cell? ⟨w.heap.size, 8, none⟩ = some (.string ⟨dst.toArray⟩) := hr13.cell 8
    clear hrun9 ho13 ho12 hk12 hk13 hr12 c7
    refine Lib.wpList_copy_run _ rfl _ _ _ _ rfl _ _ rfl rfl HR9.out ?_
    simp only [Act.put, List.setIfInBounds_toArray, List.set_cons_zero, List.set_cons_succ]
    go_wp2_with fail
    refine region_draws_tail 4 (by kernel_rfl) (by kernel_rfl) ?_
    simp only [List.take_succ_cons, List.take_zero, List.drop_succ_cons, List.drop_zero]
    repeat (go_big_quiet_step (fail))
    refine wpQuiet_nil ?_
    rintro _ ⟨nq, rfl⟩
    obtain ⟨w10, hrun10, ho15, hk15⟩ := copy_str (ty := 3) 16 (n - 16) (c - 16) (some ⟨g, 16, none⟩) dst (ho14.keeps ((Keeps.refl (fun _ => False) _).drewN nq) (fun _ _ h => h)) (by simp; omega) (by omega) (fun _ => by rw [Nat.zero_add])
    have hr15 := (hr13.drewN nq).keeps hk15 hne
    have hk15' := (hk13'.drewN nq).from hk15 hgS
    rw [hds] at ho15
    have ho16 : BOwn w10 w.heap.size (.slice (some ⟨g, 0, none⟩) n c) ([X0, UInt8.ofNat t, UInt8.ofNat (c / 256), UInt8.ofNat (c % 256), UInt8.ofNat (i / 256), UInt8.ofNat (i % 256), UInt8.ofNat (o3 / 256), UInt8.ofNat (o3 % 256), UInt8.ofNat tt, UInt8.ofNat pr, 0, 0, s0, s1, s2, s3, d0, d1, d2, d3] ++ T) := by
      have h := ho15
      rw [HD.out] at h
      exact h
    have HR10 := Lib.hid hrun10
    have c9 : w10.cell? ⟨w.heap.size, 9, none⟩ = some (.string ⟨opt.toArray⟩) := hr15.cell 9
    clear hrun10 ho15 ho14 hk13' hk15 hr13 c8
    refine Lib.wpList_copy_run _ rfl _ _ _ _ rfl _ _ rfl rfl HR10.out ?_
    simp only [Act.put, List.setIfInBounds_toArray, List.set_cons_zero, List.set_cons_succ]
    go_wp2_with fail
    obtain ⟨a2, ha2⟩ : ∃ a2, (if c = 20 then (some ⟨g, 0, none⟩ : Option Addr) else some ⟨g, 20, none⟩) = a2 := ⟨_, rfl⟩
    refine region_draws_tail 4 (by kernel_rfl) (by kernel_rfl) ?_
    simp only [List.take_succ_cons, List.take_zero, List.drop_succ_cons, List.drop_zero]
    repeat (go_big_quiet_step (fail))
    refine wpQuiet_nil ?_
    rintro _ ⟨nq, rfl⟩
    obtain ⟨w11, hrun11, ho17, hk17⟩ := copy_str (ty := 3) 20 (n - 20) (c - 20) a2 opt (ho16.keeps ((Keeps.refl (fun _ => False) _).drewN nq) (fun _ _ h => h)) (by simp [hTl]; omega) (by have := HN.out; omega) (fun h0 => by
      have h1 := List.length_pos_iff.2 h0
      have h2 := HN.out
      rw [← ha2, if_neg (by omega), Nat.zero_add])
    have hr17 := (hr15.drewN nq).keeps hk17 hne
    have hk17' := (hk15'.drewN nq).from hk17 hgS
    obtain ⟨L, hL⟩ : ∃ L, [X0, UInt8.ofNat t, UInt8.ofNat (c / 256), UInt8.ofNat (c % 256), UInt8.ofNat (i / 256), UInt8.ofNat (i % 256), UInt8.ofNat (o3 / 256), UInt8.ofNat (o3 % 256), UInt8.ofNat tt, UInt8.ofNat pr, 0, 0, s0, s1, s2, s3, d0, d1, d2, d3] ++ opt = L := ⟨_, rfl⟩
    have ho18 : BOwn w11 w.heap.size (.slice (some ⟨g, 0, none⟩) n c) L := by
      have h := ho17
      rw [← hTl] at h
      have e : ∀ (A : List UInt8), A.length = 20 → (A ++ T).take 20 ++ opt ++ (A ++ T).drop (20 + T.length) = A ++ opt := fun A hA => by
        rw [List.take_append_of_le_length (by omega), List.take_of_length_le (by omega), List.drop_of_length_le (by rw [List.length_append]; omega), List.append_nil]
      rw [e _ rfl, hL] at h
      exact h
    have HR11 := Lib.hid hrun11
    have HL := Lib.hid hL
    have hLl : 12 ≤ L.length := by rw [← hL]; simp
    obtain ⟨CC, hCC⟩ : ∃ CC, 65535 - sum16 L = CC := ⟨_, rfl⟩
    have hchk : ∀ m, Calls Tryd.prog 18 #[.slice (some ⟨g, 0, none⟩) n c] (w11.drewN m) fun e w' => e = .returned (.int .i64 (CC : Int)) ∧ w11.drewN m = w' := fun m => by
      refine (check_any _ L _ (BRd.keeps (l := L) ho18.bat.low ((Keeps.refl _ _).drewN m))).mono ?_
      rintro e w' ⟨rfl, h⟩
      exact ⟨ret_int (by have := sum16_le L; omega), h⟩
    have HCC := Lib.hid hCC
    clear hrun11 ho17 ho16 hk15' hk17 hr15 c9 hL hCC
    refine Lib.wpList_copy_run _ rfl _ _ _ _ rfl _ _ rfl rfl HR11.out ?_
    simp only [Act.put, List.setIfInBounds_toArray, List.set_cons_zero, List.set_cons_succ]
    clear ha2
    go_wp2_with fail
    refine region_draws_tail 4 (by kernel_rfl) (by kernel_rfl) ?_
    simp only [List.take_succ_cons, List.take_zero, List.drop_succ_cons, List.drop_zero]
    repeat (go_big_quiet_step ((with_reducible exact quiet_same (hchk _))))
    refine wpQuiet_nil ?_
    rintro _ ⟨nq, rfl⟩
    have hd12 := hd2
    go_wp2_with (first | (go_at_call 17; refine (put0_any g n c _ 10 CC _ _ _ (ho18.keeps ((Keeps.refl (fun _ => False) _).drewN _) (fun _ _ h => h)) (by omega) (by have := HCC.out; omega) rfl).mono ?_; rintro e w12 ⟨⟨x, rfl⟩, ho19, hk19⟩; have hr19 := (hr17.drewN nq).keeps hk19 hne; have hk19' := (hk17'.drewN nq).from hk19 hgS; have c10 : w12.cell? ⟨w.heap.size, 10, none⟩ = some (.slice da data.length dc) := hr19.cell 10; (obtain ⟨v13, w13, hrun13, ho20, hk20, -⟩ := run_append_bytes (ty := 22) ho19 (hd.keeps hk19') (by rw [List.length_set, List.length_set, ← HL.out, List.length_append]; simp only [List.length_cons, List.length_nil]; omega) (by have := hk19'.size; omega)); (have HR13 := Lib.hid hrun13); clear hrun13 hr17 hk17' ho18 hchk) | (at_builtin; refine Lib.wpList_append_run _ rfl _ _ _ _ rfl _ _ rfl rfl _ _ HR13.out ?_))
    go_ret2
    have hfin : ((L.set 10 (UInt8.ofNat (CC / 256))).set (10 + 1) (UInt8.ofNat (CC % 256))) ++ data = bytesN t i tt pr o true true src dst opt data := by
      have ec : 20 + opt.length + data.length = c := by have := HN.out; have := HC.out; omega
      rw [← HCC.out, ← HL.out]
      unfold bytesN hdN hd10 fr10 b2
      rw [ec, HH.out, HX0.out, HM.out, HS.out, HD.out]
      simp only [List.cons_append, List.nil_append, List.set_cons_succ, List.set_cons_zero]
    rw [hfin] at ho20
    exact ⟨_, rfl, ho20, hk19'.from hk20 (fun b hb => (ho19.block b hb).1)⟩
end Go.Proofs.YtngpbihnmgjniaaDoor

/-! ip4.Bytes: any packet. -/
namespace Go.Proofs.YtngpbihnmgjniaaDoor
set_option linter.unusedVariables false
set_option linter.unusedSimpArgs false
open Go.RowKit

/-- What is laid down of a packet that may be. -/
def bytesP (p : P4) : List UInt8 := bytesN p.tos.toNat p.id.toNat p.ttl.toNat p.proto.toNat (p.off.toNat / 8) p.df p.mf p.src p.dst p.opt p.data
theorem in2 (a b : Int) (r : List Int) (h : inAll (a :: b :: r) = true) : 0 ≤ a ∧ a ≤ b ∧ inAll r = true := by
  have : (decide (0 ≤ a) && decide (a ≤ b) && inAll r) = true := h
  simp only [Bool.and_eq_true, decide_eq_true_eq] at this
  exact ⟨this.1.1, this.1.2, this.2⟩
theorem check_facts (p : P4) (h : checkE p = 0) : (0 ≤ p.tos ∧ p.tos ≤ 255) ∧ (0 ≤ p.ttl ∧ p.ttl ≤ 255) ∧ (0 ≤ p.proto ∧ p.proto ≤ 255) ∧ (0 ≤ p.id ∧ p.id ≤ 65535) ∧ (0 ≤ p.off ∧ p.off ≤ 65528) ∧ p.off % 8 = 0 ∧
    p.src.length = 4 ∧ p.dst.length = 4 ∧ p.opt.length % 4 = 0 ∧ p.opt.length ≤ 40 ∧ 20 + p.opt.length + p.data.length ≤ 65535 := by
  unfold checkE at h
  by_cases h1 : numsOk p = false ∨ p.off.tmod 8 ≠ 0
  · rw [if_pos h1] at h; cases h
  · rw [if_neg h1] at h
    by_cases h2 : p.src.length ≠ 4 ∨ p.dst.length ≠ 4
    · rw [if_pos h2] at h; cases h
    · rw [if_neg h2] at h
      by_cases h3 : p.opt.length % 4 ≠ 0 ∨ 40 < p.opt.length
      · rw [if_pos h3] at h; cases h
      · rw [if_neg h3] at h
        by_cases h4 : 65535 < 20 + p.opt.length + p.data.length
        · rw [if_pos h4] at h; cases h
        · have hn : numsOk p = true := by
            cases hb : numsOk p with
            | true => rfl
            | false => exact absurd (.inl hb) h1
          unfold numsOk at hn
          obtain ⟨a1, a2, hn⟩ := in2 _ _ _ hn
          obtain ⟨b1, b2, hn⟩ := in2 _ _ _ hn
          obtain ⟨c1, c2, hn⟩ := in2 _ _ _ hn
          obtain ⟨d1, d2, hn⟩ := in2 _ _ _ hn
          obtain ⟨e1, e2, hn⟩ := in2 _ _ _ hn
          have h5 : p.off.tmod 8 = 0 := Decidable.byContradiction fun h => h1 (.inr h)
          rw [Int.tmod_eq_emod_of_nonneg e1] at h5
          refine ⟨⟨a1, a2⟩, ⟨b1, b2⟩, ⟨c1, c2⟩, ⟨d1, d2⟩, ⟨e1, e2⟩, h5, ?_, ?_, ?_, ?_, by omega⟩
          · exact Decidable.byContradiction fun h => h2 (.inl h)
          · exact Decidable.byContradiction fun h => h2 (.inr h)
          · exact Decidable.byContradiction fun h => h3 (.inl h)
          · exact Nat.le_of_not_lt fun h => h3 (.inr h)

def Byted (p : P4) (w : World) (e : Ending) (w' : World) : Prop :=
  Keeps (fun _ => False) w w' ∧ ((checkE p = 0 ∧ ∃ v, e = .returned (.tuple #[v, .int .i64 0]) ∧ BOwn w' w.heap.size v (bytesP p)) ∨ (checkE p ≠ 0 ∧ e = .returned (.tuple #[.slice none 0 0, .int .i64 (checkE p)])))

set_option maxRecDepth 100000 in
set_option maxHeartbeats 4000000 in
theorem bytes_any (p : P4) (dv : Value) (w : World) (hg : ErrT w) (hd : BRd w dv p.data) (ho : p.opt.length ≤ 100000) (hdl : p.data.length ≤ 100000) :
    Calls Tryd.prog 10 #[.agg (p4cells p dv)] w (Byted p w) := by
  by_cases hE : checkE p = 0
  · obtain ⟨⟨a1, a2⟩, ⟨b1, b2⟩, ⟨c1, c2⟩, ⟨d1, d2⟩, ⟨e1, e2⟩, h8, h4, h4', h40, h40', hall⟩ := check_facts p hE
    obtain ⟨tos, id, ttl, proto, df, mf, off, src, dst, opt, data⟩ := p
    simp only at a1 a2 b1 b2 c1 c2 d1 d2 e1 e2 h8 h4 h4' h40 h40' hall hd
    obtain ⟨t, rfl⟩ : ∃ t : Nat, tos = t := ⟨tos.toNat, by omega⟩
    obtain ⟨i, rfl⟩ : ∃ t : Nat, id = t := ⟨id.toNat, by omega⟩
    obtain ⟨tt, rfl⟩ : ∃ t : Nat, ttl = t := ⟨ttl.toNat, by omega⟩
    obtain ⟨pr, rfl⟩ : ∃ t : Nat, proto = t := ⟨proto.toNat, by omega⟩
    obtain ⟨o, rfl⟩ : ∃ o : Nat, off = ((8 * o : Nat) : Int) := ⟨off.toNat / 8, by omega⟩
    refine (bytes_ok t i tt pr o df mf src dst opt data dv w hd (by omega) (by omega) (by omega) (by omega) (by omega) h4 h4' h40 h40' hall hE).mono ?_
    rintro e w' ⟨v, rfl, h1, h2⟩
    refine ⟨h2, .inl ⟨hE, v, rfl, ?_⟩⟩
    have eo : ((8 * o : Nat) : Int).toNat / 8 = o := by omega
    unfold bytesP
    simp only [Int.toNat_natCast]
    rw [show 8 * o / 8 = o by omega]
    exact h1
  · have hk0 := (Keeps.refl (fun _ => False) w).alloc (.cells (p4cells p dv) 24)
    have hc := check4_any w.heap.size p dv _ (RowAt.new w _ _) (hd.keeps hk0) ho hdl
    go_enter Tryd.func10, Tryd.ntmps10
    go_wp2_with fail
    refine hc.mono ?_
    rintro e w2 ⟨⟨hz, rfl⟩ | ⟨hz, fb, rfl, hf⟩, hk⟩
    · exact absurd hz hE
    · have hk2 := hk0.trans hk (fun _ _ h => h)
      have HE := Lib.hid hE
      clear hE hz
      go_wp2_with (go_at_call 16; refine (number_fault fb _ _ (hg.keeps hk2) hf).mono ?_; rintro e w3 ⟨rfl, hk3⟩)
      go_ret2
      exact ⟨hk2.trans hk3 (fun _ _ h => h), .inr ⟨HE.out, rfl⟩⟩
end Go.Proofs.YtngpbihnmgjniaaDoor
