/- Words, walks and plain laws that the claim leans on, part 23. -/
import Derived.Test.YtekaoknpjpbjgaaDoorM5
import Derived.Test.YtekaoknpjpbjgaaDoorM7
import Derived.Test.YtekaoknpjpbjgaaDoorM16
import Derived.Test.YtekaoknpjpbjgaaDoorM21
import Derived.Test.YtekaoknpjpbjgaaDoorM22
import Derived.Laws.BitsAllLaws

/-! ctr: the blocks of a stream, one by one. -/
namespace Go.Proofs.YtekaoknpjpbjgaaDoor
set_option linter.unusedVariables false
set_option linter.unusedSimpArgs false
open Go.RowKit
attribute [local go_sem] Oper.semAt_some

theorem cells_of_cell {w : World} {a : Addr} {v : Value} (h : w.cell? a = some v) : ¬ NoCells w a.block := by
  rintro ⟨o, ho, hc⟩
  unfold World.cell? at h
  rw [ho] at h
  cases o <;> simp_all [Obj.isCells]
theorem BAt.keepsN {w w' : World} {p : Nat → Prop} {v : Value} {l : List UInt8} (h : BAt w p v l) (hk : Keeps (NoCells w) w w') : BAt w' p v l := by
  obtain ⟨h1, a, c, h2, h3, h4, h5⟩ := h
  refine ⟨h1, a, c, h2, h3, h4, h5.imp id ?_⟩
  rintro ⟨b, off, hb, ha, hc⟩
  exact ⟨b, off, hb, ha, fun j u hu => hk.cell (hc j u hu) (cells_of_cell (hc j u hu))⟩
theorem RowAt.keepsN {w w' : World} {b : Nat} {cs : Array Value} {T : TypeId} (h : RowAt w b cs T) (hk : Keeps (NoCells w) w w') : RowAt w' b cs T :=
  h.keeps hk (fun ⟨o, ho, hc⟩ => by
    have e : some o = some (.cells cs T (0, 0)) := ho.symm.trans h
    cases Option.some.inj e
    simp [Obj.isCells] at hc)
theorem BOwn.keepsN {w w' : World} {B : Nat} {v : Value} {l : List UInt8} (h : BOwn w B v l) (hk : Keeps (NoCells w) w w') : BOwn w' B v l := by
  obtain ⟨h1, h0, h2⟩ := h
  refine ⟨h1, h0, h2.imp id ?_⟩
  rintro ⟨g, off, c, cs, hb, rfl, h3, h4, hr, h5, h6⟩
  exact ⟨g, off, c, cs, hb, rfl, h3, h4, hr.keepsN hk, h5, h6⟩

theorem wpListIn_append_run {P : Program} (l0 m : Nat) (w : World) {ops : Array Oper} {rest : List Oper} {o : Oper} {a : Act} {Q : Exit → Act → World → Prop} (hgd : o.guard = none) (s x : Operand) (t tn : TypeId)
    (ho : o.op = .call { callee := .builtin .append, args := #[s, x], argTypes := #[t, tn] }) (vs vx : Value) (hs : a.eval s = vs) (hx : a.eval x = vx)
    (v' : Value) (w' : World) (hr : (Builtin.append_ #[t, tn] o.type #[vs, vx]).run P w = .ok v' w') (h : wpListIn (Fence.wide.inRound l0) m P ops Q rest (a.put o.dst v') w') : wpListIn (Fence.wide.inRound l0) m P ops Q (o :: rest) a w := by
  refine wpListIn_plain hgd fun K hK => ⟨fun f _ => trivial, ?_⟩
  have e : (o.semAt (Fence.wide.inRound l0).round a.eval).run P w = .ok (.value v') w' := by
    show (o.semAt (some l0) a.eval).run P w = _
    simp [Oper.semAt, execOp, ho, resolve, invoke, builtin, hs, hx, hr]
  rw [e]
  exact hK _ _ h
/-- What the blocks' maker has captured, and what it reads. -/
structure Capt (w : World) (Bo Bn Bs Bi Bk : Nat) (sv iv kv : Value) (salt ivl keys : List UInt8) (N : Nat) : Prop where
  cn : w.cell? ⟨Bn, 0, none⟩ = some (.int .i64 N)
  cs : w.cell? ⟨Bs, 0, none⟩ = some sv
  ci : w.cell? ⟨Bi, 0, none⟩ = some iv
  ck : w.cell? ⟨Bk, 0, none⟩ = some kv
  ne : Bn ≠ Bo ∧ Bs ≠ Bo ∧ Bi ≠ Bo ∧ Bk ≠ Bo
  rs : BAt w (· < Bo) sv salt
  ri : BAt w (· < Bo) iv ivl
  rk : BAt w (· < Bo) kv keys
  bo : Bo < w.heap.size
def UB (w : World) (Bo b : Nat) : Prop := b = Bo ∨ w.heap.size ≤ b
theorem Capt.keeps {w W : World} {Bo Bn Bs Bi Bk : Nat} {sv iv kv : Value} {salt ivl keys : List UInt8} {N : Nat} (h : Capt w Bo Bn Bs Bi Bk sv iv kv salt ivl keys N) (hk : Keeps (UB w Bo) w W) :
    W.cell? ⟨Bn, 0, none⟩ = some (.int .i64 N) ∧ W.cell? ⟨Bs, 0, none⟩ = some sv ∧ W.cell? ⟨Bi, 0, none⟩ = some iv ∧ W.cell? ⟨Bk, 0, none⟩ = some kv ∧ BRd W sv salt ∧ BRd W iv ivl ∧ BRd W kv keys := by
  have lt : ∀ {a : Addr} {v : Value}, w.cell? a = some v → a.block ≠ Bo → ¬ UB w Bo a.block := fun hc hn e => by
    have := World.block_lt_of_cell? w _ hc
    rcases e with e | e
    · exact hn e
    · omega
  have rd : ∀ {v : Value} {l : List UInt8}, BAt w (· < Bo) v l → BRd W v l := fun hb => (hb.keeps hk (fun b hb e => by
    have := h.bo
    rcases e with e | e <;> omega)).mono fun b hb => by have := h.bo; have := hk.size; omega
  exact ⟨hk.cell h.cn (lt h.cn h.ne.1), hk.cell h.cs (lt h.cs h.ne.2.1), hk.cell h.ci (lt h.ci h.ne.2.2.1), hk.cell h.ck (lt h.ck h.ne.2.2.2), rd h.rs, rd h.ri, rd h.rk⟩
def RBlk (keys salt ivl : List UInt8) (k : Nat) (v : Value) (W : World) : Prop := BAt W (fun _ => True) v (blockOf keys (salt ++ ivl ++ be4 (k + 1)))

set_option maxRecDepth 100000 in
set_option maxHeartbeats 1000000 in
theorem blocks1_in (w W : World) (Bo Bn Bs Bi Bk l N : Nat) (sv iv kv : Value) (salt ivl keys : List UInt8) (hc : Capt w Bo Bn Bs Bi Bk sv iv kv salt ivl keys N) (hs : salt.length = 4) (hi : ivl.length = 8) (hkl : keys.length = 176 ∨ keys.length = 240) (hN : N ≤ 1000000)
    (G : Nat → World → Prop) (hG : ∀ k A B, G k A → Keeps (fun _ => False) A B → G k B) (h0 : G 0 W)
    (hY : ∀ k v W1, k < N → G k W1 → RBlk keys salt ivl k v W1 → YieldAt Fence.wide 1 Tryd.prog l #[v] W1 fun e W' => e = .returned (.bool true) ∧ G (k + 1) W' ∧ Keeps (UB w Bo) W1 W')
    (hU : ∀ k A, G k A → Keeps (UB w Bo) w A) :
    CallsIn Fence.wide 2 Tryd.prog 66 (#[.func (.yield l) #[] #[]] ++ #[.pointer (some ⟨Bn, 0, none⟩), .pointer (some ⟨Bs, 0, none⟩), .pointer (some ⟨Bi, 0, none⟩), .pointer (some ⟨Bk, 0, none⟩)]) W
      fun e W' => (∃ v, e = .returned v) ∧ G N W' := by
  obtain ⟨c1, c2, c3, c4, r1, r2, r3⟩ := hc.keeps (hU 0 W h0)
  refine callsIn_of_wp Tryd.func66 rfl trivial ?_ rfl
  simp only [Tryd.ntmps66, List.size_toArray, List.length_cons, List.length_nil, Nat.reduceAdd, Nat.reduceSub, Array.replicate_succ, Array.replicate_zero, List.push_toArray, List.append_toArray, List.nil_append, List.cons_append]
  gi_wp2
  have HY := Lib.hid hY
  have HU := Lib.hid hU
  have HG := Lib.hid hG
  clear hY hU hG c1 c2 c3 c4 r1 r2 r3
  gi_loopw [11] (fun i wr => ∃ k : Nat, k ≤ N ∧ i = .int .i64 k ∧ G k wr) (fun i _ => N - (intOf i).toNat)
  case atStart => exact ⟨0, by omega, rfl, h0⟩
  case round =>
    obtain ⟨k, hk, rfl, hg⟩ := hrel
    by_cases hlt : k < N
    · obtain ⟨-, c2, c3, c4, r1, r2, r3⟩ := hc.keeps (HU.out k wr hg)
      have HC := counter_any sv iv salt ivl (k + 1) wr r1 r2 hs hi (by omega) (by omega)
      rw [Int.natCast_succ] at HC
      have HCT := Lib.hid HC
      have HG1 := Lib.hid hg
      have HR3 := Lib.hid r3
      have c4' := Lib.hid c4
      clear HC r1 r2 r3 hg c4
      gi_wp2
      refine ⟨trivial, (callsIn_wide.2 HCT.out).mono ?_⟩
      rintro e w1 ⟨v1, rfl, ho1, hk1⟩
      have hg1 := HG.out k wr w1 HG1.out hk1
      have c41 := hk1.cell c4'.out (fun h => h)
      have hr31 := HR3.out.keeps hk1
      have hbl : (salt ++ ivl ++ be4 (k + 1)).length = 16 := by simp [hs, hi, be4]
      have HBL := Lib.hid (block_any kv v1 keys _ w1 hr31 ho1.bat.low hkl hbl)
      have HG2 := Lib.hid hg1
      clear hg1 hr31 ho1 hk1 c2 c3 HCT HG1 HR3 c4' hbl
      gi_wp2
      refine ⟨trivial, (callsIn_wide.2 HBL.out).mono ?_⟩
      rintro e w2 ⟨v2, rfl, hb2, hk2⟩
      have hg2 := HG.out k w1 w2 HG2.out hk2
      obtain ⟨fn, tmps, assign, body, hy, hRd⟩ := HY.out k v2 w2 hlt hg2 (hb2.mono fun _ _ => trivial)
      clear HBL HG2 c41 hb2 hk2 hg2
      gi_wp2
      refine hRd.mono ?_
      rintro e W3 ⟨rfl, hg3, hk3⟩
      gi_wp2
      go_roundw
      case rel => exact ⟨k + 1, by omega, by go_num, hg3⟩
      case measure => simp [intOf]; omega
    · obtain rfl : k = N := by omega
      gi_wp2
      go_end0
      exact ⟨⟨_, rfl⟩, hg⟩
set_option maxRecDepth 100000 in
theorem blocks_any (ka sa ia : Option Addr) (kl kc sl sc il ic : Nat) (m : Int) (w : World) :
    Calls Tryd.prog 52 #[.slice ka kl kc, .slice sa sl sc, .slice ia il ic, .int .i64 m] w fun e w' =>
      e = .returned (.func (.func 66) #[] #[.pointer (some ⟨w.heap.size + 3, 0, none⟩), .pointer (some ⟨w.heap.size + 1, 0, none⟩), .pointer (some ⟨w.heap.size + 2, 0, none⟩), .pointer (some ⟨w.heap.size, 0, none⟩)]) ∧
      w'.cell? ⟨w.heap.size, 0, none⟩ = some (.slice ka kl kc) ∧ w'.cell? ⟨w.heap.size + 1, 0, none⟩ = some (.slice sa sl sc) ∧ w'.cell? ⟨w.heap.size + 2, 0, none⟩ = some (.slice ia il ic) ∧ w'.cell? ⟨w.heap.size + 3, 0, none⟩ = some (.int .i64 m) ∧ Keeps (fun _ => False) w w' := by
  have hmf : ∀ (fn : Fn) (first cap : Array Value) (w : World), (Instr.makeFunc fn first cap).run Tryd.prog w = .ok (.func fn first cap) w := fun _ _ _ _ => rfl
  go_enter Tryd.func52, Tryd.ntmps52
  go_wp2
  go_ret
  have s1 : (w.alloc (.cells #[.slice ka kl kc] 25)).heap.size = w.heap.size + 1 := Array.size_push _
  have s2 : ((w.alloc (.cells #[.slice ka kl kc] 25)).alloc (.cells #[.slice sa sl sc] 25)).heap.size = w.heap.size + 2 := (Array.size_push _).trans (by rw [s1])
  have s3 : (((w.alloc (.cells #[.slice ka kl kc] 25)).alloc (.cells #[.slice sa sl sc] 25)).alloc (.cells #[.slice ia il ic] 25)).heap.size = w.heap.size + 3 := (Array.size_push _).trans (by rw [s2])
  have r0 := (((RowAt.new w #[.slice ka kl kc] 25).alloc (.cells #[.slice sa sl sc] 25)).alloc (.cells #[.slice ia il ic] 25)).alloc (.cells #[.int .i64 m] 3)
  have r1 := ((RowAt.new (w.alloc (.cells #[.slice ka kl kc] 25)) #[.slice sa sl sc] 25).alloc (.cells #[.slice ia il ic] 25)).alloc (.cells #[.int .i64 m] 3)
  have r2 := (RowAt.new ((w.alloc (.cells #[.slice ka kl kc] 25)).alloc (.cells #[.slice sa sl sc] 25)) #[.slice ia il ic] 25).alloc (.cells #[.int .i64 m] 3)
  have r3 := RowAt.new (((w.alloc (.cells #[.slice ka kl kc] 25)).alloc (.cells #[.slice sa sl sc] 25)).alloc (.cells #[.slice ia il ic] 25)) #[.int .i64 m] 3
  rw [s1] at r1
  rw [s2] at r2
  rw [s3] at r3
  exact ⟨rfl, r0.one, r1.one, r2.one, r3.one, ((((Keeps.refl _ w).alloc _).alloc _).alloc _).alloc _⟩
set_option maxRecDepth 100000 in
set_option maxHeartbeats 1000000 in
theorem stream_any (kv sv iv : Value) (key salt ivl : List UInt8) (n : Nat) (w : World) (hk : BRd w kv key) (hs : BRd w sv salt) (hi : BRd w iv ivl) (h1 : key.length = 16 ∨ key.length = 32) (h2 : salt.length = 4) (h3 : ivl.length = 8) (h4 : n ≤ 65536) :
    Calls Tryd.prog 45 #[kv, sv, iv, .int .i64 n] w fun e w' => ∃ v, e = .returned (.tuple #[v, .int .i64 0]) ∧ BOwn w' w.heap.size v (streamOf key salt ivl n) ∧ Keeps (fun _ => False) w w' := by
  obtain ⟨sa, sc, rfl, -, -⟩ := BAt.slice hs
  obtain ⟨ia, ic, rfl, -, -⟩ := BAt.slice hi
  have HS := Lib.hid hs
  have HI := Lib.hid hi
  have HK := Lib.hid (keys_any kv key w hk h1)
  rw [h2] at HS ⊢
  rw [h3] at HI ⊢
  clear hs hi hk
  have hn0 : ¬ (n : Int) < 0 := by omega
  have hn1 : ¬ (65536 : Int) < (n : Int) := by omega
  obtain ⟨m, hm⟩ : ∃ m, (n + 15) / 16 = m := ⟨_, rfl⟩
  refine (callsIn_wide (n := 3)).1 ?_
  refine callsIn_of_wp_marks Tryd.func45 rfl trivial ?_ rfl
  simp only [Tryd.ntmps45, List.size_toArray, List.length_cons, List.length_nil, Nat.reduceAdd, Nat.reduceSub, Array.replicate_succ, Array.replicate_zero, List.push_toArray, List.append_toArray, List.nil_append, List.cons_append]
  gi_wp2
  refine ⟨trivial, (callsIn_wide.2 HK.out).mono ?_⟩
  rintro e w1 ⟨v1, rfl, ho1, hk1⟩
  obtain ⟨a1, c1, rfl, -, -⟩ := BOwn.slice ho1
  have hkl : (keysOf key).length = 176 ∨ (keysOf key).length = 240 := by
    unfold keysOf
    rw [keysF_len]
    rcases h1 with h1 | h1 <;> rw [h1] <;> simp
  obtain ⟨keys, hkeys⟩ : ∃ keys, keysOf key = keys := ⟨_, rfl⟩
  rw [hkeys] at ho1 hkl ⊢
  have HKEYS := Lib.hid hkeys
  have HO1 := Lib.hid ho1
  have HK1 := Lib.hid hk1
  clear ho1 hk1 hkeys
  have hm' : ((n : Int) + 16 - 1) / 16 = (m : Int) := by omega
  gi_wp2
  obtain ⟨Bo, hBo⟩ : ∃ Bo, w1.heap.size = Bo := ⟨_, rfl⟩
  have hka := HK1.out.alloc (.cells #[.slice none 0 0] 25)
  have hrB := RowAt.new w1 #[.slice none 0 0] 25
  have hszA : (w1.alloc (.cells #[.slice none 0 0] 25)).heap.size = Bo + 1 := by rw [← hBo]; exact Array.size_push _
  have hBoW : w.heap.size ≤ Bo := by rw [← hBo]; exact HK1.out.size
  rw [hBo] at hrB ⊢
  have hk1A := (Keeps.refl (fun _ => False) w1).alloc (.cells #[.slice none 0 0] 25)
  generalize w1.alloc (.cells #[.slice none 0 0] 25) = wA at *
  refine ⟨trivial, (callsIn_wide.2 (blocks_any a1 sa ia _ c1 4 sc 8 ic m wA)).mono ?_⟩
  rintro e w2 ⟨rfl, b0, b1, b2, b3, hk2⟩
  rw [hszA] at b0 b1 b2 b3 ⊢
  have hrB2 := hrB.keeps hk2 (fun h => h)
  have hk02 := hka.trans hk2 (fun _ _ h => h)
  have hk12 := hk1A.trans hk2 (fun _ _ h => h)
  have hs2 := hk2.size
  have hcapt : Capt w2 Bo (Bo + 1 + 3) (Bo + 1 + 1) (Bo + 1 + 2) (Bo + 1) (.slice sa 4 sc) (.slice ia 8 ic) (.slice a1 keys.length c1) salt ivl keys m :=
    ⟨b3, b1, b2, b0, ⟨by omega, by omega, by omega, by omega⟩, (BAt.keeps HS.out hk02 (fun _ _ h => h)).mono fun b hb => by omega, (BAt.keeps HI.out hk02 (fun _ _ h => h)).mono fun b hb => by omega,
      ((HO1.out.keeps hk12 (fun _ _ h => h)).bat.mono fun b hb => by have := (HO1.out.block b hb).2; omega), by omega⟩
  have HCAPT := Lib.hid hcapt
  have HRB := Lib.hid hrB2
  have HK02 := Lib.hid hk02
  clear hrB b0 b1 b2 b3 hk2 hrB2 hk02 hk12 hk1A hka hcapt HO1 HK1 HS HI HK hszA hBo hm'
  gi_wp2
  refine wpIn_rangeFunc_R (F := Fence.wide) rfl (by omega) (gf := 66) rfl trivial (enters_of Tryd.func66 (by kernel_rfl) rfl) m (RBlk keys salt ivl)
    (fun k W => ∃ ov, RowAt W Bo #[ov] 25 ∧ BOwn W w2.heap.size ov (blocksOf keys salt ivl k)) (UB w2 Bo) ?theAct (fun b hb => .inr hb)
    (fun k A B h hk => by obtain ⟨ov, h1, h2⟩ := h; exact ⟨ov, h1.keepsN hk, h2.keepsN hk⟩) (fun k v A B h hk => BAt.keepsN h hk) ?assign ?body ?iter ?start ?done
  case assign =>
    intro l v W K hK
    gi_wp2
    exact hK
  case start => exact ⟨_, HRB.out, BOwn.nil _ _⟩
  case iter =>
    intro l G W hG hkW _ h0 hY hU
    exact blocks1_in w2 W Bo _ _ _ _ l m _ _ _ salt ivl keys HCAPT.out h2 h3 hkl (by omega) G hG h0 hY hU
  case body =>
    rintro l k v W hkm ⟨ov, hro, hoo⟩ hr hl hu
    obtain ⟨oa, oc, rfl, -, -⟩ := BOwn.slice hoo
    obtain ⟨va, vc, rfl, -, -⟩ := BAt.slice hr
    have hbl := blocksOf_len keys salt ivl k
    have hol := blockOf_len keys (salt ++ ivl ++ be4 (k + 1))
    obtain ⟨v7, w7, hrun, hb7, hk7, -⟩ := run_append_bytes (ty := 25) hoo hr (by rw [hbl, hol]; omega) hu.size
    obtain ⟨a7, c7, rfl, -, -⟩ := BOwn.slice hb7
    rw [← blocksOf_succ] at hb7
    have p1 : W.cell? ⟨Bo, 0, none⟩ = some (.slice oa (blocksOf keys salt ivl k).length oc) := hro.cell 0
    have hr7 := hro.keeps hk7 (hoo.apart hro (by decide))
    have p7 : w7.cell? ⟨Bo, 0, none⟩ = some (.slice oa (blocksOf keys salt ivl k).length oc) := hr7.cell 0
    have f7 := hr7.frozen 0
    have hB7 : RowAt (w7.setCell ⟨Bo, 0, none⟩ (.slice a7 (blocksOf keys salt ivl (k + 1)).length c7)) Bo #[.slice a7 (blocksOf keys salt ivl (k + 1)).length c7] 25 := (hr7.set 0 _).eq rfl
    have hkS : Keeps (· = Bo) w7 (w7.setCell ⟨Bo, 0, none⟩ (.slice a7 (blocksOf keys salt ivl (k + 1)).length c7)) := (Keeps.refl _ _).setCell _ _ (.inl rfl)
    have hb8 := hb7.keeps hkS (fun b hb e => by subst e; exact hb7.apart hr7 (by decide) hb)
    have hcells : ∀ b, (Value.slice oa (blocksOf keys salt ivl k).length oc).ownBlock = some b → ¬ NoCells W b := fun b hb ⟨o, ho, hc⟩ => by
      obtain ⟨x1, x0, x2⟩ := hoo
      rcases x2 with ⟨e, -, -⟩ | ⟨g9, o9, c9, cs9, hb9, e9, h39, h49, hr9, -, -⟩
      · rw [e] at hb; simp [Value.ownBlock] at hb
      · rw [e9] at hb
        obtain rfl : g9 = b := by simpa [Value.ownBlock] using hb
        have e : some o = some (.cells cs9 5 (0, 0)) := ho.symm.trans hr9
        cases Option.some.inj e
        simp [Obj.isCells] at hc
    have hcellB : ¬ NoCells W Bo := cells_of_cell p1
    have hkU : Keeps (fun b => UB w2 Bo b ∧ ¬ NoCells W b) W (w7.setCell ⟨Bo, 0, none⟩ (.slice a7 (blocksOf keys salt ivl (k + 1)).length c7)) :=
      (hk7.mono (S' := fun b => UB w2 Bo b ∧ ¬ NoCells W b) (fun b _ hb => ⟨.inr (hoo.block b hb).1, hcells b hb⟩)).trans hkS (fun b _ e => by subst e; exact ⟨.inl rfl, hcellB⟩)
    have hlen : (blocksOf keys salt ivl k ++ blockOf keys (salt ++ ivl ++ be4 (k + 1))).length = (blocksOf keys salt ivl (k + 1)).length := by rw [blocksOf_succ]
    rw [hlen] at hrun
    have HR := Lib.hid hrun
    have HB7 := Lib.hid hB7
    have HB8 := Lib.hid hb8
    have HKU := Lib.hid hkU
    have HU2 := Lib.hid (hu.trans hkU (fun _ _ h => h.1))
    clear hrun hB7 hb8 hkU hk7 hb7 hr7 hkS hlen hro hoo hcells hcellB hu hr hl
    change Code.wpIn (Fence.wide.inRound l) 1 Tryd.prog _ _ _ _
    generalize (blocksOf keys salt ivl k).length = lk at *
    generalize (blocksOf keys salt ivl (k + 1)).length = lk1 at *
    generalize (blockOf keys (salt ++ ivl ++ be4 (k + 1))).length = lb at *
    clear hbl hol
    gi_wp2_with (gi_at_builtin; refine wpListIn_append_run l _ _ rfl _ _ _ _ rfl _ _ rfl rfl _ _ HR.out ?_)
    exact ⟨⟨_, HB7.out, HB8.out⟩, HU2.out, HKU.out⟩
  case done =>
    rintro D W hD ⟨ov, hro, hoo⟩ hu hDW
    obtain ⟨oa, oc, rfl, -, -⟩ := BOwn.slice hoo
    have hbl := blocksOf_len keys salt ivl m
    have hf := hoo.firstG n (by rw [hbl]; omega)
    have hst : (blocksOf keys salt ivl m).take n = streamOf key salt ivl n := by rw [streamOf, hm, HKEYS.out]
    rw [hst] at hf
    have p1 : W.cell? ⟨Bo, 0, none⟩ = some (.slice oa (blocksOf keys salt ivl m).length oc) := hro.cell 0
    obtain ⟨LB, hLB⟩ : ∃ LB, (blocksOf keys salt ivl m).length = LB := ⟨_, rfl⟩
    rw [hLB] at p1 hbl
    have hnl : n ≤ LB := by omega
    have hs22 : w.heap.size ≤ w2.heap.size := HK02.out.size
    have hkw := HK02.out.from hu (fun b hb => by rcases hb with rfl | hb <;> omega)
    have HF := Lib.hid (hf.mono hs22)
    have HKW := Lib.hid hkw
    have HDW := Lib.hid hDW
    have hoc : n ≤ oc := by
      obtain ⟨_, a9, c9, e9, h9, -⟩ := hoo.bat
      simp only [Value.slice.injEq] at e9
      obtain ⟨-, -, rfl⟩ := e9
      rw [hLB] at h9
      omega
    clear hf hkw hDW hu hoo hro hbl hst hLB hm
    gi_wp2
    have hput : Keeps (NoCells W) W (W.putObj D (.deferred none)) := (Keeps.refl _ W).putObj (.inl ⟨_, HDW.out, rfl⟩)
    have hputD : Keeps (· = D) W (W.putObj D (.deferred none)) := (Keeps.refl _ W).putObj (.inl rfl)
    refine ⟨by simp, .inl ⟨_, _, rfl, run_takeDeferred HDW.out, ?_⟩⟩
    exact ⟨_, results_tmp2 rfl _ _ _, _, rfl, HF.out.keepsN hput, HKW.out.from hputD (fun b e => by omega)⟩
end Go.Proofs.YtekaoknpjpbjgaaDoor

/-! ctr.Turn: bytes with a stream. -/
namespace Go.Proofs.YtekaoknpjpbjgaaDoor
set_option linter.unusedVariables false
set_option linter.unusedSimpArgs false
open Go.RowKit

def updN (n : Nat) (f g : Nat → UInt8) (k : Nat) : List UInt8 := (List.range n).map fun i => if i < k then f i else g i
theorem updN_len (n : Nat) (f g : Nat → UInt8) (k : Nat) : (updN n f g k).length = n := by simp [updN]
theorem updN_get (n : Nat) (f g : Nat → UInt8) (k i : Nat) (h : i < (updN n f g k).length) : (updN n f g k)[i] = if i < k then f i else g i := by simp [updN]
theorem updN_set (n : Nat) (f g : Nat → UInt8) (k : Nat) : (updN n f g k).set k (f k) = updN n f g (k + 1) := by
  refine List.ext_getElem (by simp [updN]) fun i h1 h2 => ?_
  rw [List.getElem_set, updN_get]
  by_cases hik : k = i
  · subst hik
    rw [if_pos rfl, updN_get, if_pos (Nat.lt_succ_self k)]
  · rw [if_neg hik, updN_get]
    have : i < k ↔ i < k + 1 := by omega
    simp only [this]
theorem updN_zero (l : List UInt8) (f : Nat → UInt8) : updN l.length f (at8 l) 0 = l := by
  refine List.ext_getElem (by simp [updN]) fun i h1 h2 => ?_
  rw [updN_get]
  simp [at8, h2]
theorem updN_full (s b : List UInt8) (h : s.length = b.length) : updN s.length (fun i => at8 s i ^^^ at8 b i) (at8 s) s.length = List.zipWith (· ^^^ ·) s b := by
  refine List.ext_getElem (by simp [updN, h]) fun i h1 h2 => ?_
  have hi : i < s.length := by rw [updN_len] at h1; exact h1
  have hi' : i < b.length := by omega
  rw [updN_get, if_pos hi, List.getElem_zipWith]
  simp [at8, hi, hi']
set_option maxRecDepth 100000 in
set_option maxHeartbeats 1000000 in
theorem cturn_any (kv sv iv bv : Value) (key salt ivl b : List UInt8) (w : World) (hk : BRd w kv key) (hs : BRd w sv salt) (hi : BRd w iv ivl) (hb : BRd w bv b) (h1 : key.length = 16 ∨ key.length = 32) (h2 : salt.length = 4) (h3 : ivl.length = 8) (h4 : b.length ≤ 65536) :
    Calls Tryd.prog 27 #[kv, sv, iv, bv] w fun e w' => ∃ v, e = .returned (.tuple #[v, .int .i64 0]) ∧ BOwn w' w.heap.size v (turnOf key salt ivl b) ∧ Keeps (fun _ => False) w w' := by
  obtain ⟨ba, bc, rfl, -, -⟩ := BAt.slice hb
  have HB := Lib.hid hb
  have HS := Lib.hid (stream_any kv sv iv key salt ivl b.length w hk hs hi h1 h2 h3 h4)
  clear hk hs hi hb
  obtain ⟨s, hst⟩ : ∃ s, streamOf key salt ivl b.length = s := ⟨_, rfl⟩
  have hsl : s.length = b.length := by rw [← hst, streamOf_len]
  have ht : List.zipWith (· ^^^ ·) s b = turnOf key salt ivl b := by rw [turnOf, hst]
  rw [hst] at HS
  have HT := Lib.hid ht
  have HSL := Lib.hid hsl
  clear hst ht
  obtain ⟨n, hn⟩ : ∃ n, b.length = n := ⟨_, rfl⟩
  rw [hn] at HS HB hsl h4 ⊢
  have HN := Lib.hid hn
  clear hn
  go_enter Tryd.func27, Tryd.ntmps27
  go_wp2_with fail
  refine HS.out.mono ?_
  rintro e w1 ⟨v1, rfl, ho1, hk1⟩
  obtain ⟨a1, c1, rfl, -, -⟩ := BOwn.slice ho1
  rw [hsl] at ho1 ⊢
  have HO1 := Lib.hid ho1
  have HK1 := Lib.hid hk1
  clear ho1 hk1 HS
  go_wp2
  go_loopw [24] (fun u24 wr => ∃ k : Nat, k ≤ n ∧ u24 = .int .i64 k ∧ BOwn wr w.heap.size (.slice a1 n c1) (updN s.length (fun i => at8 s i ^^^ at8 b i) (at8 s) k) ∧ Keeps (fun _ => False) w wr) (fun u24 _ => n - (intOf u24).toNat)
  case atStart => exact ⟨0, by omega, rfl, by rw [updN_zero]; exact HO1.out, HK1.out⟩
  case round =>
    obtain ⟨k, hkn, rfl, ho, hkr⟩ := hrel
    clear HO1 HK1
    by_cases hlt : k < n
    · have hul := updN_len s.length (fun i => at8 s i ^^^ at8 b i) (at8 s) k
      obtain ⟨g, off, c2, e2, -, -, hg⟩ := ho.place (by rw [hul, hsl]; omega)
      simp only [Value.slice.injEq] at e2
      obtain ⟨rfl, -, rfl⟩ := e2
      obtain ⟨t1, t2, t3⟩ := ho.at k (by rw [hul, hsl]; exact hlt)
      rw [updN_get, if_neg (Nat.lt_irrefl k)] at t1
      have t4 := t3 (at8 s k ^^^ at8 b k)
      rw [updN_set s.length (fun i => at8 s i ^^^ at8 b i)] at t4
      obtain ⟨b2, o2, c2', e2', -, -, -, hbc⟩ := BAt.at8 HB.out (by rw [HN.out]; omega)
      rw [HN.out] at e2'
      simp only [Value.slice.injEq] at e2'
      obtain ⟨rfl, -, rfl⟩ := e2'
      have c0 := hkr.cell (hbc k (by rw [HN.out]; exact hlt)) (fun h => h)
      have hx := m8_xor (at8 s k) (at8 b k)
      have hk2 := hkr.setCell ⟨g, off + k, none⟩ (.int .u8 ((at8 s k ^^^ at8 b k).toNat : Int)) (.inr hg)
      have T4 := Lib.hid t4
      have HK2 := Lib.hid hk2
      generalize at8 s k ^^^ at8 b k = z at *
      generalize at8 s k = x at *
      generalize at8 b k = y at *
      clear t3 t4 hk2 hbc ho hkr hul hsl
      go_wp2
      refine region_draws_tail 8 (by kernel_rfl) (by kernel_rfl) ?_
      simp only [List.take_succ_cons, List.take_zero, List.drop_succ_cons, List.drop_zero]
      repeat (go_big_quiet_step (fail))
      refine wpQuiet_nil ?_
      rintro _ ⟨nq, rfl⟩
      go_wp2
      go_roundw
      case rel => exact ⟨k + 1, by omega, by go_num, T4.out.keeps ((Keeps.refl (fun _ => False) _).drewN nq) (fun _ _ h => h), HK2.out.drewN nq⟩
      case measure => simp [intOf]; omega
    · obtain rfl : k = n := by omega
      have hf := updN_full s b HSL.out
      rw [hsl, HT.out] at hf
      rw [hsl, hf] at ho
      have HO := Lib.hid ho
      have HK := Lib.hid hkr
      clear ho hkr hf hsl
      go_wp2
      go_ret2
      exact ⟨_, rfl, HO.out, HK.out⟩
end Go.Proofs.YtekaoknpjpbjgaaDoor

/-! pad: Length, Seal. -/
namespace Go.Proofs.YtekaoknpjpbjgaaDoor
set_option linter.unusedVariables false
set_option linter.unusedSimpArgs false
open Go.RowKit

set_option maxRecDepth 100000 in
theorem plen_any (n : Nat) (w : World) (h : n ≤ 1000000000) : Calls Tryd.prog 36 #[.int .i64 n] w fun e w' => e = .returned (.int .i64 (padLen n : Nat)) ∧ w = w' := by
  have h0 : ¬ (n : Int) < 0 := by omega
  go_enter Tryd.func36, Tryd.ntmps36
  go_wp2
  go_ret
  refine ⟨ret_int ?_, rfl⟩
  unfold padLen
  omega
set_option maxRecDepth 100000 in
theorem plen_neg (n : Int) (w : World) (h : n < 0) : Calls Tryd.prog 36 #[.int .i64 n] w fun e w' => e = .returned (.int .i64 0) ∧ w = w' := by
  go_enter Tryd.func36, Tryd.ntmps36
  go_wp2
  go_ret
  exact ⟨rfl, rfl⟩
theorem padTail_succ (k : Nat) : padTail (k + 1) = padTail k ++ [UInt8.ofNat (k + 1)] := by simp [padTail, List.range_succ]
theorem ofNat_small (k : Nat) (h : k < 256) : ((UInt8.ofNat k).toNat : Int) = (k : Int) := by rw [UInt8.toNat_ofNat']; omega
set_option maxRecDepth 100000 in
set_option maxHeartbeats 1000000 in
theorem pseal_any (dv : Value) (data : List UInt8) (x : UInt8) (w : World) (hd : BRd w dv data) (hl : data.length ≤ 65000) :
    Calls Tryd.prog 25 #[dv, .int .i64 (x.toNat : Int)] w fun e w' => ∃ v, e = .returned (.tuple #[v, .int .i64 0]) ∧ BOwn w' w.heap.size v (padF data x) ∧ Keeps (fun _ => False) w w' := by
  obtain ⟨da, dc, rfl, -, -⟩ := BAt.slice hd
  have hx := m8_lt x
  have hs0 : (x.toNat : Int) / 256 = 0 := by omega
  have hb := padLen_bd data.length
  have hp4 := padN_lt data.length
  have hN : (padLen data.length : Int) - (data.length : Int) - 2 = (padN data.length : Int) := by unfold padN; omega
  obtain ⟨n, hn⟩ : ∃ n, data.length = n := ⟨_, rfl⟩
  have HL := Lib.hid (plen_any data.length w (by omega))
  have HC := Lib.hid (clone_any _ data w _ hd (by omega))
  clear hd
  rw [hn] at HL HC hN hb hp4 hl ⊢
  have HNN := Lib.hid hn
  clear hn
  obtain ⟨P, hP⟩ : ∃ P, padLen n = P := ⟨_, rfl⟩
  obtain ⟨q, hq⟩ : ∃ q, padN n = q := ⟨_, rfl⟩
  rw [hP] at HL hN hb
  rw [hq] at hN hp4
  have HQ := Lib.hid hq
  clear hP hq
  go_enter Tryd.func25, Tryd.ntmps25
  go_wp2_with fail
  refine HL.out.mono ?_
  rintro e w1 ⟨rfl, rfl⟩
  go_wp2_with fail
  refine HC.out.mono ?_
  rintro e w1 ⟨v1, rfl, ho1, hk1⟩
  have HO1 := Lib.hid ho1
  have HK1 := Lib.hid hk1
  clear ho1 hk1 HC HL
  go_wp2
  trace_state
  go_loopw [27, 7] (fun u27 u7 wr => ∃ k : Nat, k ≤ q ∧ u27 = .int .i64 k ∧ BOwn wr w.heap.size u7 (data ++ padTail k) ∧ Keeps (fun _ => False) w wr) (fun u27 _ _ => q - (intOf u27).toNat)
  case atStart => exact ⟨0, by omega, rfl, by simpa [padTail] using HO1.out, HK1.out⟩
  case round =>
    obtain ⟨k, hkq, rfl, ho, hkr⟩ := hrel
    clear HO1 HK1
    obtain ⟨a2, c2, rfl, -, -⟩ := BOwn.slice ho
    by_cases hlt : k < q
    · have hbl := BAt.one wr ((k : Int) + 1) (UInt8.ofNat (k + 1)) 5 (by rw [ofNat_small _ (by omega)]; omega)
      have hka := (Keeps.refl (fun _ => False) wr).alloc (.cells #[.int .u8 ((k : Int) + 1)] 5)
      obtain ⟨v7, w7, hrun, hb7, hk7, -⟩ := run_append_bytes (ty := 25) (ho.keeps hka (fun _ _ h => h)) hbl (by simp [padTail]; rw [HNN.out]; omega) (by have := hka.size; have := hkr.size; omega)
      rw [List.append_assoc, ← padTail_succ] at hb7
      have HR := Lib.hid hrun
      have HB7 := Lib.hid hb7
      have HK7 := Lib.hid ((hkr.trans hka (fun _ _ h => h)).from hk7 (fun b hb => (ho.block b hb).1))
      clear hrun hb7 hk7 hka hbl hkr ho
      go_wp2_with (at_builtin; refine Lib.wpList_append_run _ rfl _ _ _ _ rfl _ _ rfl rfl _ _ HR.out ?_)
      go_roundw
      case rel => exact ⟨k + 1, by omega, by go_num, HB7.out, HK7.out⟩
      case measure => simp [intOf]; omega
    · obtain rfl : k = q := by omega
      have hbl := BAt.lit wr #[.int .u8 (k : Int), .int .u8 (x.toNat : Int)] [UInt8.ofNat k, x] 2 5 (by rw [← ofNat_small k (by omega)]; rfl) rfl (by omega)
      have hka := (Keeps.refl (fun _ => False) wr).alloc (.cells #[.int .u8 (k : Int), .int .u8 (x.toNat : Int)] 5)
      obtain ⟨v7, w7, hrun, hb7, hk7, -⟩ := run_append_bytes (ty := 25) (ho.keeps hka (fun _ _ h => h)) hbl (by simp [padTail]; rw [HNN.out]; omega) (by have := hka.size; have := hkr.size; omega)
      have hpf : data ++ padTail k ++ [UInt8.ofNat k, x] = padF data x := by unfold padF; rw [HNN.out, HQ.out]
      rw [hpf] at hb7
      have HR := Lib.hid hrun
      have HB7 := Lib.hid hb7
      have HK7 := Lib.hid ((hkr.trans hka (fun _ _ h => h)).from hk7 (fun b hb => (ho.block b hb).1))
      clear hrun hb7 hk7 hka hbl hkr ho hpf
      go_wp2_with (at_builtin; refine Lib.wpList_append_run _ rfl _ _ _ _ rfl _ _ rfl rfl _ _ HR.out ?_)
      go_ret2
      exact ⟨_, rfl, HB7.out, HK7.out⟩
end Go.Proofs.YtekaoknpjpbjgaaDoor

/-! pad.Open. -/
namespace Go.Proofs.YtekaoknpjpbjgaaDoor
set_option linter.unusedVariables false
set_option linter.unusedSimpArgs false
open Go.RowKit

theorem take_tail (r : List UInt8) (n k : Nat) (hr : r.length = n) (h : r.take k = padTail k) (hk : k < n) (hx : (at8 r k).toNat = k + 1) : r.take (k + 1) = padTail (k + 1) := by
  rw [List.take_succ_eq_append_getElem (by omega), h, padTail_succ]
  congr 2
  have : at8 r k = r[k]'(by omega) := by unfold at8; rw [List.getD_eq_getElem?_getD, List.getElem?_eq_getElem (by omega)]; rfl
  rw [← UInt8.toNat_inj, ← this, hx, UInt8.toNat_ofNat']
  have := (at8 r k).toNat_lt
  omega
theorem take_no (r : List UInt8) (n k : Nat) (hr : r.length = n) (hk : k < n) (hn : n ≤ 255) (hx : (at8 r k).toNat ≠ k + 1) : r.take n ≠ padTail n := by
  intro h
  have h1 := congrArg (fun l => at8 l k) h
  have e1 : at8 (r.take n) k = at8 r k := by rw [List.take_of_length_le (by omega)]
  have e2 : at8 (padTail n) k = UInt8.ofNat (k + 1) := by simp [at8, padTail, hk]
  simp only [e1, e2] at h1
  have := (at8 r k).toNat_lt
  rw [h1, UInt8.toNat_ofNat'] at hx
  omega
def POpen (b : List UInt8) (w : World) (e : Ending) (w' : World) : Prop :=
  match padOpen b with
  | some (d, x) => ∃ v, e = .returned (.tuple #[v, .int .i64 (x.toNat : Int), .int .i64 0]) ∧ BOwn w' w.heap.size v d ∧ Keeps (fun _ => False) w w'
  | none => ∃ err : Int, err ≠ 0 ∧ e = .returned (.tuple #[.slice none 0 0, .int .i64 0, .int .i64 err]) ∧ Keeps (fun _ => False) w w'
theorem BAt.take8 {w : World} {p : Nat → Prop} {bb bo n c : Nat} {l : List UInt8} (h : BAt w p (.slice (some ⟨bb, bo, none⟩) n c) l) (k : Nat) (hk : k ≤ l.length) : BAt w p (.slice (some ⟨bb, bo, none⟩) k c) (l.take k) := by
  obtain ⟨h1, a, c1, e, h3, h4, h5⟩ := h
  simp only [Value.slice.injEq] at e
  obtain ⟨rfl, rfl, rfl⟩ := e
  have hl : (l.take k).length = k := by rw [List.length_take]; omega
  refine ⟨by rw [bcells_length]; omega, _, c, by rw [hl], by omega, h4, ?_⟩
  rcases h5 with h5 | ⟨b, off, hb, e2, hx⟩
  · left
    have : l.length = 0 := by have := congrArg List.length h5; rw [bcells_length] at this; exact this
    have : l.take k = [] := List.eq_nil_of_length_eq_zero (by omega)
    rw [this]
    rfl
  · right
    refine ⟨b, off, hb, e2, fun j u hu => hx j u ?_⟩
    have hj : j < (l.take k).length := by have := (List.getElem?_eq_some_iff.1 hu).1; rwa [bcells_length] at this
    rw [← hu]
    simp only [bcells, List.getElem?_map]
    rw [List.getElem?_take_of_lt (by omega)]
set_option maxRecDepth 100000 in
set_option maxHeartbeats 2000000 in
theorem popen_any (bv : Value) (b : List UInt8) (w : World) (hb : BRd w bv b) (hl : b.length ≤ 100000) :
    Calls Tryd.prog 39 #[bv] w (POpen b w) := by
  by_cases h2 : b.length < 2
  · obtain ⟨ba, bc, rfl, -, -⟩ := BAt.slice hb
    have h2' : (b.length : Int) < 2 := by omega
    have hpo : padOpen b = none := by unfold padOpen; simp only; rw [if_pos h2]
    have HP := Lib.hid hpo
    clear hpo hb
    go_enter Tryd.func39, Tryd.ntmps39
    go_wp2
    go_step3
    go_wp2
    rw [Exit.noGoto_ret]
    refine bodyPost_ret (results_tmp3 rfl _ _ _) rfl ?_
    unfold POpen
    rw [HP.out]
    exact ⟨8, by omega, rfl, Keeps.refl _ _⟩
  · obtain ⟨bb, bo, bc, rfl, hbc, hbm, hbl, hcell⟩ := BAt.at8 hb (by omega)
    obtain ⟨M, hM⟩ : ∃ M, b.length = M + 2 := ⟨b.length - 2, by omega⟩
    obtain ⟨x0, hx0⟩ : ∃ x, at8 b M = x := ⟨_, rfl⟩
    obtain ⟨x1, hx1⟩ : ∃ x, at8 b (M + 1) = x := ⟨_, rfl⟩
    have c0 := hcell M (by omega)
    have c1 := hcell (M + 1) (by omega)
    rw [hx0] at c0
    rw [hx1] at c1
    have hxl := m8_lt x0
    obtain ⟨n, hn⟩ : ∃ n, x0.toNat = n := ⟨_, rfl⟩
    have hpo : padOpen b = if M < n then none else if (b.drop (M - n)).take n = padTail n then some (b.take (M - n), x1) else none := by
      unfold padOpen
      simp only [hM, Nat.add_sub_cancel, hx0, hn, show M + 2 - 1 = M + 1 by omega, hx1]
      rw [if_neg (by omega)]
    obtain ⟨L, hL⟩ : ∃ L, b.length = L := ⟨_, rfl⟩
    have HB := Lib.hid hb
    have HCELL := Lib.hid hcell
    rw [hL] at HB hbc hM hl ⊢
    have HLL := Lib.hid hL
    have hM2 : (L : Int) - 2 = (M : Int) := by omega
    have hLM : L - M = 2 := by omega
    have hbM : ¬ bc = M := by omega
    have hM0 : M ≤ L := by omega
    have q1 := i64_f ((L : Int) - 2) (by omega) (by omega)
    rw [hM2] at q1
    have h2' : ¬ (L : Int) < 2 := by omega
    have HPO := Lib.hid hpo
    have HM := Lib.hid hM
    rw [hn] at c0 hxl
    clear hb hcell hL hM hpo hx0 hx1 h2
    by_cases hnM : M < n
    · have hnM' : (M : Int) < (n : Int) := by omega
      go_enter Tryd.func39, Tryd.ntmps39
      go_wp2
      go_step3
      go_wp2
      refine region_draws_tail 11 (by kernel_rfl) (by kernel_rfl) ?_
      simp only [List.take_succ_cons, List.take_zero, List.drop_succ_cons, List.drop_zero]
      repeat (go_big_quiet_step (fail))
      refine wpQuiet_nil ?_
      rintro _ ⟨nq, rfl⟩
      go_wp2
      rw [Exit.noGoto_ret]
      refine bodyPost_ret (results_tmp3 rfl _ _ _) rfl ?_
      unfold POpen
      rw [HPO.out, if_pos hnM]
      exact ⟨130, by omega, rfl, (Keeps.refl _ _).drewN nq⟩
    · obtain ⟨f, hf⟩ : ∃ f, M = f + n := ⟨M - n, by omega⟩
      have hfn : (M : Int) - (n : Int) = (f : Int) := by omega
      have hMf : M - f = n := by omega
      have hfM : f ≤ M := by omega
      have hbf : ¬ bc = f := by omega
      have hnM' : ¬ (M : Int) < (n : Int) := by omega
      have HF := Lib.hid hf
      clear hf
      go_enter Tryd.func39, Tryd.ntmps39
      go_wp2
      go_step3
      go_wp2
      refine region_draws_tail 11 (by kernel_rfl) (by kernel_rfl) ?_
      simp only [List.take_succ_cons, List.take_zero, List.drop_succ_cons, List.drop_zero]
      repeat (go_big_quiet_step (fail))
      refine wpQuiet_nil ?_
      rintro _ ⟨nq, rfl⟩
      go_wp2
      go_step3
      go_wp2
      have hkW : Keeps (fun _ => False) w (w.drewN nq) := (Keeps.refl _ _).drewN nq
      have hrl : (b.drop f).length = n + 2 := by rw [List.length_drop, HLL.out, HM.out, HF.out]; omega
      have HRL := Lib.hid hrl
      clear hrl
      go_loop [41, 7] (fun u41 u7 => ∃ k : Nat, k ≤ n ∧ u41 = .int .i64 k ∧ u7 = .int .i64 0 ∧ (b.drop f).take k = padTail k) (fun u41 _ => n - (intOf u41).toNat)
      case atStart => exact ⟨0, by omega, rfl, rfl, rfl⟩
      case round =>
        obtain ⟨k, hk, rfl, rfl, ht⟩ := hrel
        have HT := Lib.hid ht
        clear ht
        by_cases hlt : k < n
        · obtain ⟨m, hm⟩ : ∃ m, (at8 (b.drop f) k).toNat = m := ⟨_, rfl⟩
          have ck := HCELL.out (f + k) (by rw [HLL.out, HM.out, HF.out]; omega)
          rw [← at8_drop, hm, ← Nat.add_assoc] at ck
          have hm8 : m < 256 := by rw [← hm]; exact m8_lt _
          have HMK := Lib.hid hm
          clear hm
          by_cases hmk : m = k + 1
          · have hmI : (m : Int) = (k : Int) + 1 := by omega
            have HMK2 := Lib.hid hmk
            clear hmk
            go_wp2
            go_round
            case rel => exact ⟨k + 1, by omega, by go_num, rfl, take_tail _ (n + 2) k HRL.out HT.out (by omega) (by rw [HMK.out, HMK2.out])⟩
            case measure => simp [intOf]; omega
          · have hmI : ¬ (m : Int) = (k : Int) + 1 := by omega
            have hno : ¬ (b.drop f).take n = padTail n := by
              have h9 := take_no ((b.drop f).take n) n k (by rw [List.length_take, HRL.out]; omega) hlt (by omega) (by
                have e : at8 ((b.drop f).take n) k = at8 (b.drop f) k := by unfold at8; rw [List.getD_eq_getElem?_getD, List.getD_eq_getElem?_getD, List.getElem?_take_of_lt hlt]
                rw [e, HMK.out]
                exact hmk)
              rwa [List.take_of_length_le (by rw [List.length_take]; omega)] at h9
            have HNO := Lib.hid hno
            clear hmk hno
            go_wp2
            refine bodyPost_ret (results_tmp3 rfl _ _ _) rfl ?_
            unfold POpen
            rw [HPO.out, if_neg hnM, if_neg (by rw [show M - n = f by have := HF.out; omega]; exact HNO.out)]
            exact ⟨130, by omega, rfl, hkW⟩
        · obtain rfl : k = n := by omega
          have hbt : BRd w (.slice (some ⟨bb, bo, none⟩) f bc) (b.take f) := BAt.take8 HB.out f (by rw [HLL.out]; have := HM.out; have := HF.out; omega)
          have hfl : (b.take f).length = f := by rw [List.length_take, HLL.out]; have := HM.out; have := HF.out; omega
          have hf2 : f ≤ M := hfM
          have hx1l := m8_lt x1
          have q9 := i64_f (x1.toNat : Int) (by omega) (by omega)
          have hfb : f ≤ bc := by have := HM.out; have := HF.out; omega
          have hpo : padOpen b = some (b.take f, x1) := by rw [HPO.out, if_neg hnM, show M - k = f by have := HF.out; omega, if_pos HT.out]
          have HP := Lib.hid hpo
          have HCL := Lib.hid (fun (W : World) (h : Keeps (fun _ => False) w W) => clone_any _ (b.take f) W _ (hbt.keeps h) (by rw [hfl]; omega))
          have c1' : w.cell? ⟨bb, bo + M + 1, none⟩ = some (.int .u8 (x1.toNat : Int)) := by rw [Nat.add_assoc]; exact c1
          clear hpo hbt hfl
          go_wp2
          refine region_T [] (fun z => z.cell? ⟨bb, bo + M + 1, none⟩ = some (.int .u8 (x1.toNat : Int))) (by kernel_rfl) ?_
          have hC : (fun z : World => z.cell? ⟨bb, bo + M + 1, none⟩ = some (.int .u8 (x1.toNat : Int))) (w.drewN nq).drew := c1'
          refine anyT_take0 (i := 0) (v := ?_) rfl (by kernel_rfl) (by kernel_rfl) (by kernel_rfl) (by kernel_rfl) (by kernel_rfl) (fun _ _ _ h => h) hC (.inl ⟨by rfl, fun _ _ => ?_⟩) ?_
          rotate_left 1
          · go_simp
            try with_reducible rfl
          simp only [Act.put, List.getElem_toArray, List.getElem_cons_succ, List.getElem_cons_zero, List.setIfInBounds_toArray, List.set_cons_zero, List.set_cons_succ]
          refine anyT_take0 (i := 1) (v := ?_) rfl (by kernel_rfl) (by kernel_rfl) (by kernel_rfl) (by kernel_rfl) (by kernel_rfl) (fun _ _ _ h => h) hC (.inl ⟨by rfl, fun _ _ => ?_⟩) ?_
          rotate_left 1
          · go_simp
            try with_reducible rfl
          simp only [Act.put, List.getElem_toArray, List.getElem_cons_succ, List.getElem_cons_zero, List.setIfInBounds_toArray, List.set_cons_zero, List.set_cons_succ]
          refine anyT_take0 (i := 2) (v := ?_) rfl (by kernel_rfl) (by kernel_rfl) (by kernel_rfl) (by kernel_rfl) (by kernel_rfl) (fun _ _ _ h => h) hC (.inl ⟨by rfl, fun _ _ => ?_⟩) ?_
          rotate_left 1
          · go_simp
            try with_reducible rfl
          simp only [Act.put, List.getElem_toArray, List.getElem_cons_succ, List.getElem_cons_zero, List.setIfInBounds_toArray, List.set_cons_zero, List.set_cons_succ]
          refine anyT_take0 (i := 4) (v := ?_) rfl (by kernel_rfl) (by kernel_rfl) (by kernel_rfl) (by kernel_rfl) (by kernel_rfl) (fun _ _ _ h => h) hC (.inl ⟨by rfl, fun _ _ => ?_⟩) ?_
          rotate_left 1
          · go_simp
            try with_reducible rfl
          simp only [Act.put, List.getElem_toArray, List.getElem_cons_succ, List.getElem_cons_zero, List.setIfInBounds_toArray, List.set_cons_zero, List.set_cons_succ]
          refine anyT_take0 (i := 5) (v := ?_) rfl (by kernel_rfl) (by kernel_rfl) (by kernel_rfl) (by kernel_rfl) (by kernel_rfl) (fun _ _ _ h => h) hC (.inl ⟨by rfl, fun _ _ => ?_⟩) ?_
          rotate_left 1
          · go_simp
            try with_reducible rfl
          simp only [Act.put, List.getElem_toArray, List.getElem_cons_succ, List.getElem_cons_zero, List.setIfInBounds_toArray, List.set_cons_zero, List.set_cons_succ]
          refine anyT_takeC (i := 6) (v := ?_) rfl (by kernel_rfl) (by kernel_rfl) (by kernel_rfl) (by kernel_rfl) (by kernel_rfl) (by kernel_rfl) (fun _ _ _ h => h) hC (.inl ⟨by rfl, fun w hCw => ?_⟩) ?_
          rotate_left 1
          · dsimp only at hCw
            go_simp
            try with_reducible rfl
          simp only [Act.put, List.getElem_toArray, List.getElem_cons_succ, List.getElem_cons_zero, List.setIfInBounds_toArray, List.set_cons_zero, List.set_cons_succ]
          refine anyT_take0 (i := 7) (v := ?_) rfl (by kernel_rfl) (by kernel_rfl) (by kernel_rfl) (by kernel_rfl) (by kernel_rfl) (fun _ _ _ h => h) hC (.inl ⟨by rfl, fun _ _ => ?_⟩) ?_
          rotate_left 1
          · go_simp
            try with_reducible rfl
          simp only [Act.put, List.getElem_toArray, List.getElem_cons_succ, List.getElem_cons_zero, List.setIfInBounds_toArray, List.set_cons_zero, List.set_cons_succ]
          refine anyT_force (i := 3) rfl (by kernel_rfl) (by rfl) ?_
          go_simp
          refine (HCL.out _ ((Keeps.refl _ w).drewN _)).mono ?_
          rintro e w2 ⟨v2, rfl, ho2, hk2⟩
          have hC2 := hk2.cell hC (fun h => h)
          refine ⟨fun _ => hC2, ?_⟩
          have HO2 := Lib.hid ho2
          have HK2 := Lib.hid (((Keeps.refl (fun _ => False) w).drewN (nq + 1)).trans hk2 (fun _ _ h => h))
          clear ho2 hk2
          try simp only [Act.put, List.getElem_toArray, List.getElem_cons_succ, List.getElem_cons_zero, List.setIfInBounds_toArray, List.set_cons_zero, List.set_cons_succ]
          clear hC
          have hC : (fun z : World => z.cell? ⟨bb, bo + M + 1, none⟩ = some (.int .u8 (x1.toNat : Int))) w2 := hC2
          refine anyT_take0 (i := 8) (v := ?_) rfl (by kernel_rfl) (by kernel_rfl) (by kernel_rfl) (by kernel_rfl) (by kernel_rfl) (fun _ _ _ h => h) hC (.inl ⟨by rfl, fun _ _ => ?_⟩) ?_
          rotate_left 1
          · go_simp
            try with_reducible rfl
          simp only [Act.put, List.getElem_toArray, List.getElem_cons_succ, List.getElem_cons_zero, List.setIfInBounds_toArray, List.set_cons_zero, List.set_cons_succ]
          refine anyT_take0 (i := 9) (v := ?_) rfl (by kernel_rfl) (by kernel_rfl) (by kernel_rfl) (by kernel_rfl) (by kernel_rfl) (fun _ _ _ h => h) hC (.inl ⟨by rfl, fun _ _ => ?_⟩) ?_
          rotate_left 1
          · go_simp
            try with_reducible rfl
          simp only [Act.put, List.getElem_toArray, List.getElem_cons_succ, List.getElem_cons_zero, List.setIfInBounds_toArray, List.set_cons_zero, List.set_cons_succ]
          refine anyT_take0 (i := 10) (v := ?_) rfl (by kernel_rfl) (by kernel_rfl) (by kernel_rfl) (by kernel_rfl) (by kernel_rfl) (fun _ _ _ h => h) hC (.inl ⟨by rfl, fun _ _ => ?_⟩) ?_
          rotate_left 1
          · go_simp
            try with_reducible rfl
          simp only [Act.put, List.getElem_toArray, List.getElem_cons_succ, List.getElem_cons_zero, List.setIfInBounds_toArray, List.set_cons_zero, List.set_cons_succ]
          refine (show anyT _ _ _ _ _ _ 0 _ _ _ from ⟨by kernel_rfl, ?_⟩)
          go_wp2
          refine bodyPost_ret (results_tmp3 rfl _ _ _) rfl ?_
          unfold POpen
          rw [HP.out]
          exact ⟨_, rfl, HO2.out.mono (Nat.le_refl _), HK2.out⟩
end Go.Proofs.YtekaoknpjpbjgaaDoor

/-! esp.number: the lowest bytes of a number. -/
namespace Go.Proofs.YtekaoknpjpbjgaaDoor
set_option linter.unusedVariables false
set_option linter.unusedSimpArgs false
open Go.RowKit

def numAt (n m i : Nat) : UInt8 := UInt8.ofNat (n / 2 ^ (8 * (m - 1 - i)))
theorem num4 (n : Nat) : (List.range 4).map (numAt n 4) = be4 n := by
  simp [numAt, be4, List.range, List.range.loop]
theorem num8 (n : Nat) : (List.range 8).map (numAt n 8) = be8 n := by
  simp [numAt, be8, be4, List.range, List.range.loop, Nat.div_div_eq_div_mul]
set_option maxRecDepth 100000 in
set_option maxHeartbeats 2000000 in
theorem number_any (n m : Nat) (w : World) (hn : n < 18446744073709551616) (hm : m = 4 ∨ m = 8) :
    Calls Tryd.prog 26 #[.int .u64 n, .int .i64 m] w (Gives ((List.range m).map (numAt n m)) w) := by
  obtain ⟨l, hl⟩ : ∃ l, (List.range m).map (numAt n m) = l := ⟨_, rfl⟩
  have hfull : updN m (numAt n m) (fun _ => 0) m = l := by
    rw [← hl]
    refine List.map_congr_left fun i hi => ?_
    rw [if_pos (List.mem_range.1 hi)]
  have hzero : List.replicate m 0 = updN m (numAt n m) (fun _ => 0) 0 := by
    refine List.ext_getElem (by simp [updN]) fun i h1 h2 => ?_
    rw [updN_get]
    simp
  rw [hl]
  have HFULL := Lib.hid hfull
  have HZERO := Lib.hid hzero
  clear hl hfull hzero
  have e : ∀ x : Nat, ((x : Int) % 256) = ((UInt8.ofNat x).toNat : Int) := fun x => by rw [UInt8.toNat_ofNat']; omega
  have HE := Lib.hid e
  clear e
  rcases hm with rfl | rfl
  · go_enter Tryd.func26, Tryd.ntmps26
    go_wp2_with (at_make; (refine wpList_make_bytes rfl (.tmp 7) (.tmp 7) rfl w.heap.size _ _ 4 4 rfl rfl rfl rfl (by omega) (by omega) (Nat.le_refl _) (fun w1 h1 hk1 => ?_)))
    rw [HZERO.out] at h1
    have H1 := Lib.hid h1
    have HK1 := Lib.hid hk1
    clear h1 hk1
    go_loopw [11] (fun u11 wr => ∃ k : Nat, k ≤ 4 ∧ u11 = .int .i64 k ∧ BOwn wr w.heap.size (.slice (some ⟨w.heap.size, 0, none⟩) 4 4) (updN 4 (numAt n 4) (fun _ => 0) k) ∧ Keeps (fun _ => False) w wr) (fun u11 _ => 4 - (intOf u11).toNat)
    case atStart => exact ⟨0, by omega, rfl, H1.out, HK1.out⟩
    case round =>
      obtain ⟨k, hk, rfl, ho, hkr⟩ := hrel
      clear H1 HK1
      by_cases hlt : k < 4
      · obtain ⟨t1, t2, t3⟩ := ho.at k (by rw [updN_len]; exact hlt)
        have t4 := t3 (numAt n 4 k)
        rw [updN_set 4 (numAt n 4)] at t4
        rw [updN_get, if_neg (Nat.lt_irrefl k)] at t1
        rw [Nat.zero_add] at t1 t2 t4
        have hk2 := hkr.setCell ⟨w.heap.size, k, none⟩ (.int .u8 ((numAt n 4 k).toNat : Int)) (.inr (Nat.le_refl _))
        have hna := HE.out (n / 2 ^ (8 * (4 - 1 - k)))
        have hsh : ((4 : Int) - 1 - (k : Int)) = ((4 - 1 - k : Nat) : Int) := by omega
        obtain ⟨s, hs⟩ : ∃ s, 8 * (4 - 1 - k) = s := ⟨_, rfl⟩
        have hs63 : s ≤ 56 := by omega
        have T4 := Lib.hid t4
        have HK2 := Lib.hid hk2
        have q1 := i64_f ((4 : Int) - 1 - (k : Int)) (by omega) (by omega)
        have q2 : 8 * ((4 : Int) - 1 - (k : Int)) = (s : Int) := by omega
        have q3 := i64_f (s : Int) (by omega) (by omega)
        have hv : (n : Int) / 2 ^ s % 256 = ((numAt n 4 k).toNat : Int) := by
          have e1 : (n : Int) / 2 ^ s = ((n / 2 ^ s : Nat) : Int) := by rw [Int.natCast_ediv, Int.natCast_pow]; rfl
          rw [e1, ← hs]
          exact hna
        have HV := Lib.hid hv
        clear t3 t4 hk2 ho hkr hv
        go_wp2
        rw [HV.out]
        go_roundw
        case rel => exact ⟨k + 1, by omega, by go_num, T4.out, HK2.out⟩
        case measure => simp [intOf]; omega
      · obtain rfl : k = 4 := by omega
        rw [HFULL.out] at ho
        have HO := Lib.hid ho
        have HK := Lib.hid hkr
        clear ho hkr
        go_wp2
        go_ret
        exact ⟨_, rfl, HO.out, HK.out⟩
  · go_enter Tryd.func26, Tryd.ntmps26
    go_wp2_with (at_make; (refine wpList_make_bytes rfl (.tmp 7) (.tmp 7) rfl w.heap.size _ _ 8 8 rfl rfl rfl rfl (by omega) (by omega) (Nat.le_refl _) (fun w1 h1 hk1 => ?_)))
    rw [HZERO.out] at h1
    have H1 := Lib.hid h1
    have HK1 := Lib.hid hk1
    clear h1 hk1
    go_loopw [11] (fun u11 wr => ∃ k : Nat, k ≤ 8 ∧ u11 = .int .i64 k ∧ BOwn wr w.heap.size (.slice (some ⟨w.heap.size, 0, none⟩) 8 8) (updN 8 (numAt n 8) (fun _ => 0) k) ∧ Keeps (fun _ => False) w wr) (fun u11 _ => 8 - (intOf u11).toNat)
    case atStart => exact ⟨0, by omega, rfl, H1.out, HK1.out⟩
    case round =>
      obtain ⟨k, hk, rfl, ho, hkr⟩ := hrel
      clear H1 HK1
      by_cases hlt : k < 8
      · obtain ⟨t1, t2, t3⟩ := ho.at k (by rw [updN_len]; exact hlt)
        have t4 := t3 (numAt n 8 k)
        rw [updN_set 8 (numAt n 8)] at t4
        rw [updN_get, if_neg (Nat.lt_irrefl k)] at t1
        rw [Nat.zero_add] at t1 t2 t4
        have hk2 := hkr.setCell ⟨w.heap.size, k, none⟩ (.int .u8 ((numAt n 8 k).toNat : Int)) (.inr (Nat.le_refl _))
        have hna := HE.out (n / 2 ^ (8 * (8 - 1 - k)))
        have hsh : ((8 : Int) - 1 - (k : Int)) = ((8 - 1 - k : Nat) : Int) := by omega
        obtain ⟨s, hs⟩ : ∃ s, 8 * (8 - 1 - k) = s := ⟨_, rfl⟩
        have hs63 : s ≤ 56 := by omega
        have T4 := Lib.hid t4
        have HK2 := Lib.hid hk2
        have q1 := i64_f ((8 : Int) - 1 - (k : Int)) (by omega) (by omega)
        have q2 : 8 * ((8 : Int) - 1 - (k : Int)) = (s : Int) := by omega
        have q3 := i64_f (s : Int) (by omega) (by omega)
        have hv : (n : Int) / 2 ^ s % 256 = ((numAt n 8 k).toNat : Int) := by
          have e1 : (n : Int) / 2 ^ s = ((n / 2 ^ s : Nat) : Int) := by rw [Int.natCast_ediv, Int.natCast_pow]; rfl
          rw [e1, ← hs]
          exact hna
        have HV := Lib.hid hv
        clear t3 t4 hk2 ho hkr hv
        go_wp2
        rw [HV.out]
        go_roundw
        case rel => exact ⟨k + 1, by omega, by go_num, T4.out, HK2.out⟩
        case measure => simp [intOf]; omega
      · obtain rfl : k = 8 := by omega
        rw [HFULL.out] at ho
        have HO := Lib.hid ho
        have HK := Lib.hid hkr
        clear ho hkr
        go_wp2
        go_ret
        exact ⟨_, rfl, HO.out, HK.out⟩
theorem number4_any (n : Nat) (w : World) (hn : n < 18446744073709551616) : Calls Tryd.prog 26 #[.int .u64 n, .int .i64 4] w (Gives (be4 n) w) := by
  have := number_any n 4 w hn (.inl rfl)
  rw [num4] at this
  exact this
theorem number8_any (n : Nat) (w : World) (hn : n < 18446744073709551616) : Calls Tryd.prog 26 #[.int .u64 n, .int .i64 8] w (Gives (be8 n) w) := by
  have := number_any n 8 w hn (.inr rfl)
  rw [num8] at this
  exact this
end Go.Proofs.YtekaoknpjpbjgaaDoor

/-! Associations as values; esp.Check, may, Length. -/
namespace Go.Proofs.YtekaoknpjpbjgaaDoor
set_option linter.unusedVariables false
set_option linter.unusedSimpArgs false
open Go.RowKit

def stx (l : List UInt8) : Value := .string ⟨l.toArray⟩
def saC (sa : SaV) : Array Value := #[.int .i64 sa.spi, .string ⟨sa.key.toArray⟩, .string ⟨sa.salt.toArray⟩, .string ⟨sa.mac.toArray⟩, .bool sa.esn, .int .i64 sa.window]
def mayE (b : Bool) : Int := if b then 0 else 1
theorem mayS_iff (sa : SaV) : mayS sa = true ↔ 256 ≤ sa.spi ∧ sa.spi ≤ 4294967295 ∧ (sa.key.length = 16 ∨ sa.key.length = 32) ∧ sa.salt.length = 4 ∧ sa.mac.length = 32 ∧ 64 ≤ sa.window ∧ sa.window ≤ 1024 := by
  unfold mayS
  simp only [Bool.and_eq_true, Bool.or_eq_true, decide_eq_true_eq, and_assoc]
set_option maxRecDepth 100000 in
set_option maxHeartbeats 1000000 in
theorem check_any (sa : SaV) (w : World) : Calls Tryd.prog 14 #[.agg (saC sa)] w fun e w' => e = .returned (.int .i64 (mayE (mayS sa))) ∧ Keeps (fun _ => False) w w' := by
  obtain ⟨spi, key, salt, mac, esn, window⟩ := sa
  unfold saC
  simp only
  go_enter Tryd.func14, Tryd.ntmps14
  go_wp2
  all_goals
    go_ret
    refine ⟨ret_int ?_, (Keeps.refl _ _).alloc _⟩
    simp only [beq_iff_eq, beq_eq_false_iff_ne, ne_eq] at *
    first
      | (have hm : mayS ⟨spi, key, salt, mac, esn, window⟩ = false := by (rw [Bool.eq_false_iff, ne_eq, mayS_iff]; simp only; omega)
         rw [hm]; rfl)
      | (have hm : mayS ⟨spi, key, salt, mac, esn, window⟩ = true := by (rw [mayS_iff]; simp only; omega)
         rw [hm]; rfl)
set_option maxRecDepth 100000 in
theorem elen_any (n : Nat) (w : World) (h : n ≤ 1000000000) : Calls Tryd.prog 16 #[.int .i64 n] w fun e w' => e = .returned (.int .i64 (lenS n : Nat)) ∧ w = w' := by
  have h0 : ¬ (n : Int) < 0 := by omega
  have hp := padLen_bd n
  have HP := Lib.hid (plen_any n w h)
  have hl : (16 : Int) + (padLen n : Nat) + 16 = (lenS n : Nat) := by unfold lenS; omega
  have HL := Lib.hid hl
  clear hl
  obtain ⟨P, hP⟩ : ∃ P, padLen n = P := ⟨_, rfl⟩
  rw [hP] at hp HP HL
  go_enter Tryd.func16, Tryd.ntmps16
  go_wp2_with fail
  refine HP.out.mono ?_
  rintro e w1 ⟨rfl, rfl⟩
  go_wp2
  go_ret
  exact ⟨ret_int HL.out, rfl⟩
set_option maxRecDepth 100000 in
theorem elen_neg (n : Int) (w : World) (h : n < 0) : Calls Tryd.prog 16 #[.int .i64 n] w fun e w' => e = .returned (.int .i64 0) ∧ w = w' := by
  go_enter Tryd.func16, Tryd.ntmps16
  go_wp2
  go_ret
  exact ⟨rfl, rfl⟩
set_option maxRecDepth 100000 in
set_option maxHeartbeats 1000000 in
theorem emay_any (sa : SaV) (seq : Nat) (w : World) : Calls Tryd.prog 24 #[.agg (saC sa), .int .u64 seq] w fun e w' => e = .returned (.bool (okN sa seq)) ∧ Keeps (fun _ => False) w w' := by
  have hka := (Keeps.refl (fun _ => False) w).alloc (.cells (saC sa) 23)
  have HC := Lib.hid (check_any sa)
  have hok : okN sa seq = (mayS sa && (decide (1 ≤ seq) && (sa.esn || decide (seq ≤ 4294967295)))) := by unfold okN; rw [Bool.and_assoc]
  have HOK := Lib.hid hok
  have HKA := Lib.hid hka
  clear hok hka
  obtain ⟨spi, key, salt, mac, esn, window⟩ := sa
  unfold saC at HC HKA ⊢
  simp only at HC HKA HOK ⊢
  generalize mayS ⟨spi, key, salt, mac, esn, window⟩ = mb at *
  obtain ⟨s, hs⟩ : ∃ s : Int, (seq : Int) = s := ⟨_, rfl⟩
  rw [hs]
  have hq : s = 0 ↔ seq = 0 := by omega
  have hq2 : s < 4294967296 ↔ seq ≤ 4294967295 := by omega
  have hs0 : 0 ≤ s := by omega
  have HQ := Lib.hid (And.intro hq hq2)
  clear hs hq hq2
  go_enter Tryd.func24, Tryd.ntmps24
  go_wp2_with fail
  refine (HC.out _).mono ?_
  rintro e w1 ⟨rfl, hk1⟩
  have HK1 := Lib.hid (HKA.out.trans hk1 (fun _ _ h => h))
  have r0 := (RowAt.new w #[.int .i64 spi, .string ⟨key.toArray⟩, .string ⟨salt.toArray⟩, .string ⟨mac.toArray⟩, .bool esn, .int .i64 window] 23).keeps hk1 (fun h => h)
  have c4 : w1.cell? ⟨w.heap.size, 4, none⟩ = some (.bool esn) := r0.cell 4
  clear hk1 r0 HKA HC
  cases mb <;> simp only [mayE, if_true, if_false, Bool.false_eq_true]
  · go_wp2
    go_ret
    exact ⟨ret_bool (by rw [HOK.out]; rfl), HK1.out⟩
  · by_cases h1 : s = 0
    · subst h1
      have h2 : seq = 0 := HQ.out.1.1 rfl
      have hok : okN ⟨spi, key, salt, mac, esn, window⟩ seq = false := by rw [HOK.out, h2]; simp
      have HOK2 := Lib.hid hok
      clear h2 hok HOK HQ
      go_wp2
      go_ret
      exact ⟨ret_bool HOK2.out.symm, HK1.out⟩
    · have h1' : 0 < s := by omega
      have h2 : ¬ seq = 0 := fun e => h1 (HQ.out.1.2 e)
      have h3 : decide (1 ≤ seq) = true := decide_eq_true (by omega)
      cases esn with
      | true =>
        have hok : okN ⟨spi, key, salt, mac, true, window⟩ seq = true := by rw [HOK.out, h3]; rfl
        have HOK2 := Lib.hid hok
        clear h2 h3 hok HOK HQ
        go_wp2
        go_ret
        exact ⟨ret_bool HOK2.out.symm, HK1.out⟩
      | false =>
        by_cases h4 : s < 4294967296
        · have hok : okN ⟨spi, key, salt, mac, false, window⟩ seq = true := by rw [HOK.out, h3, decide_eq_true (HQ.out.2.1 h4)]; rfl
          have HOK2 := Lib.hid hok
          clear h2 h3 hok HOK HQ
          go_wp2
          go_ret
          exact ⟨ret_bool HOK2.out.symm, HK1.out⟩
        · have hok : okN ⟨spi, key, salt, mac, false, window⟩ seq = false := by rw [HOK.out, h3, decide_eq_false (fun e => h4 (HQ.out.2.2 e))]; rfl
          have HOK2 := Lib.hid hok
          clear h2 h3 hok HOK HQ
          go_wp2
          go_ret
          exact ⟨ret_bool HOK2.out.symm, HK1.out⟩
end Go.Proofs.YtekaoknpjpbjgaaDoor

/-! esp.value at four bytes; esp.Peek; esp.shape. -/
namespace Go.Proofs.YtekaoknpjpbjgaaDoor
set_option linter.unusedVariables false
set_option linter.unusedSimpArgs false
open Go.RowKit

theorem v_i64 (x : Int) (h1 : -9223372036854775808 ≤ x) (h2 : x ≤ 9223372036854775807) : IntKind.i64.wrap x = x := by
  simp [IntKind.wrap, IntKind.bits, IntKind.signed]
  omega
theorem v_or_nat (a b : Nat) (ha : a < 4294967296) (hb : b < 4294967296) : bits .or .i64 (a : Int) (b : Int) = ((a ||| b : Nat) : Int) := by
  have hx : a ||| b < 2 ^ 32 := Nat.or_lt_two_pow (by omega) (by omega)
  show IntKind.i64.wrap ((BitVec.ofInt 64 (a : Int) ||| BitVec.ofInt 64 (b : Int)).toNat : Int) = _
  rw [BitVec.toNat_or, ofInt_u64 a (by omega), ofInt_u64 b (by omega)]
  exact v_i64 _ (by omega) (by omega)
theorem v_or_byte (a b : Nat) (hb : b < 256) : a * 256 ||| b = 256 * a + b := by
  rw [show a * 256 = a <<< 8 by rw [Nat.shiftLeft_eq], ← Nat.shiftLeft_add_eq_or_of_lt (by omega), Nat.shiftLeft_eq]
  omega
/-- The first k of four bytes as a number. -/
def valK (l : List UInt8) : Nat → Nat
  | 0 => 0
  | k + 1 => 256 * valK l k + (at8 l k).toNat
theorem valK_lt (l : List UInt8) : ∀ k, valK l k < 256 ^ k
  | 0 => Nat.one_pos
  | k + 1 => by
    have := valK_lt l k
    have := (at8 l k).toNat_lt
    rw [Nat.pow_succ, valK]
    omega
theorem valK4 (l : List UInt8) : valK l 4 = val4 l := by simp only [valK, val4]; omega
theorem valK3 (l : List UInt8) (k : Nat) (h : k ≤ 3) : valK l k < 16777216 := by
  have h1 := valK_lt l k
  have h2 : (256 : Nat) ^ k ≤ 256 ^ 3 := Nat.pow_le_pow_right (by omega) h
  omega
set_option maxRecDepth 100000 in
set_option maxHeartbeats 1000000 in
theorem value4_any (v : Value) (l : List UInt8) (w : World) (h : BRd w v l) (hl : l.length = 4) :
    Calls Tryd.prog 42 #[v] w fun e w' => e = .returned (.int .i64 (val4 l : Nat)) ∧ w = w' := by
  obtain ⟨b, off, c, rfl, hc, hm, -, hcell⟩ := BAt.at8 h (by omega)
  rw [hl]
  have HC := Lib.hid hcell
  have HV := Lib.hid (valK4 l)
  clear h hcell
  go_enter Tryd.func42, Tryd.ntmps42
  go_wp2
  go_loop [3, 8] (fun u3 u8 => ∃ k : Nat, k ≤ 4 ∧ u8 = .int .i64 k ∧ u3 = .int .i64 (valK l k : Nat)) (fun _ u8 => 4 - (intOf u8).toNat)
  case atStart => exact ⟨0, by omega, rfl, rfl⟩
  case round =>
    obtain ⟨k, hk, rfl, rfl⟩ := hrel
    by_cases hlt : k < 4
    · have c0 := HC.out k (by omega)
      have hb := valK3 l k (by omega)
      have hx := (at8 l k).toNat_lt
      have ho := v_or_nat (valK l k * 256) (at8 l k).toNat (by omega) (by omega)
      rw [v_or_byte (valK l k) (at8 l k).toNat hx, show ((valK l k * 256 : Nat) : Int) = (valK l k : Int) * 256 from by omega] at ho
      have hs : valK l (k + 1) = 256 * valK l k + (at8 l k).toNat := rfl
      rw [← hs] at ho
      have HS := Lib.hid hs
      clear hs
      obtain ⟨Z, hZ⟩ : ∃ Z, valK l (k + 1) = Z := ⟨_, rfl⟩
      rw [hZ] at ho
      have HZ := Lib.hid hZ
      clear hZ
      have bX : (valK l k : Int) ≤ 16777215 := by omega
      have bX0 : 0 ≤ (valK l k : Int) := by omega
      generalize (at8 l k).toNat = Y at *
      have bY : (Y : Int) ≤ 255 := by omega
      generalize (valK l k : Int) = X at *
      clear hb hx HS
      go_wp2
      go_round
      case rel => exact ⟨k + 1, by omega, by go_num, by rw [HZ.out]⟩
      case measure => simp [intOf]; omega
    · obtain rfl : k = 4 := by omega
      rw [HV.out]
      go_wp2
      go_ret
      exact ⟨rfl, rfl⟩
end Go.Proofs.YtekaoknpjpbjgaaDoor

/-! esp.Peek; esp.shape. -/
namespace Go.Proofs.YtekaoknpjpbjgaaDoor
set_option linter.unusedVariables false
set_option linter.unusedSimpArgs false
open Go.RowKit

def peekS (b : List UInt8) : Int × Int × Int := if b.length < 8 then (0, 0, 8) else ((val4 b : Nat), (val4 (b.drop 4) : Nat), 0)
theorem at8_take (l : List UInt8) (n i : Nat) (h : i < n) : at8 (l.take n) i = at8 l i := by
  unfold at8
  simp [List.getD_eq_getElem?_getD, h]
theorem val4_take (l : List UInt8) : val4 (l.take 4) = val4 l := by
  unfold val4
  rw [at8_take _ _ _ (by omega), at8_take _ _ _ (by omega), at8_take _ _ _ (by omega), at8_take _ _ _ (by omega)]
theorem val4_lt (l : List UInt8) : val4 l < 4294967296 := by
  have h0 := (at8 l 0).toNat_lt
  have h1 := (at8 l 1).toNat_lt
  have h2 := (at8 l 2).toNat_lt
  have h3 := (at8 l 3).toNat_lt
  unfold val4
  omega
set_option maxRecDepth 100000 in
set_option maxHeartbeats 1000000 in
theorem peek_any (bv : Value) (b : List UInt8) (w : World) (hb : BRd w bv b) :
    Calls Tryd.prog 19 #[bv] w fun e w' => e = .returned (.tuple #[.int .i64 (peekS b).1, .int .i64 (peekS b).2.1, .int .i64 (peekS b).2.2]) ∧ ∃ m, w' = w.drewN m := by
  by_cases h8 : b.length < 8
  · obtain ⟨ba, bc, rfl, -, -⟩ := BAt.slice hb
    unfold peekS
    rw [if_pos h8]
    simp only
    have h8' : (b.length : Int) < 8 := by omega
    clear hb
    go_enter Tryd.func19, Tryd.ntmps19
    go_wp2
    refine bodyPost_ret (results_tmp3 rfl _ _ _) rfl ?_
    exact ⟨rfl, 0, rfl⟩
  · obtain ⟨g, off, c, rfl, hc, hm, -, -⟩ := BAt.get hb (by omega)
    unfold peekS
    rw [if_neg h8]
    simp only
    have h8' : ¬ (b.length : Int) < 8 := by omega
    have hc4 : ¬ c = 4 := by omega
    have hb1 := BAt.take8 hb 4 (by omega)
    have hbd : BRd w (.slice (cutA (some ⟨g, off, none⟩) c 4) (b.length - 4) (c - 4)) (b.drop 4) := BAt.cutG hb 4 (by omega)
    rw [show cutA (some ⟨g, off, none⟩) c 4 = some ⟨g, off + 4, none⟩ by unfold cutA; rw [if_neg hc4, Option.map_some, addr_add]] at hbd
    have hb2 := BAt.take8 hbd 4 (by rw [List.length_drop]; omega)
    have H1 := Lib.hid (fun n => value4_any _ _ (w.drewN n) (BRd.keeps hb1 ((Keeps.refl _ _).drewN n)) (by rw [List.length_take]; omega))
    have H2 := Lib.hid (fun n => value4_any _ _ (w.drewN n) (BRd.keeps hb2 ((Keeps.refl _ _).drewN n)) (by rw [List.length_take, List.length_drop]; omega))
    rw [val4_take] at H1 H2
    clear hb1 hb2 hbd hb
    go_enter Tryd.func19, Tryd.ntmps19
    go_wp2
    go_quiet (first | with_reducible exact quiet_same (H1.out _) | with_reducible exact quiet_same2 (H1.out _) | with_reducible exact quiet_same (H2.out _) | with_reducible exact quiet_same2 (H2.out _))
    go_wp2
    refine bodyPost_ret (results_tmp3 rfl _ _ _) rfl ?_
    exact ⟨rfl, _, rfl⟩

/-- What is wrong ahead of the tag: an error's number, or 0. -/
def shapeE (sa : SaV) (seq : Nat) (b : List UInt8) : Int :=
  if okN sa seq = false then 1 else if b.length < 36 then 8
  else if b.length % 4 ≠ 0 ∨ (val4 b : Int) ≠ sa.spi ∨ val4 (b.drop 4) ≠ seq % 4294967296 then 4 else 0
def errV (e : Int) : Value := if e = 0 then .nilIface else .iface 29 (.int .i64 e)
set_option maxRecDepth 100000 in
set_option maxHeartbeats 1000000 in
theorem shape_any (sa : SaV) (seq : Nat) (bv : Value) (b : List UInt8) (w : World) (hb : BRd w bv b) (hs : seq < 18446744073709551616) :
    Calls Tryd.prog 37 #[.agg (saC sa), .int .u64 seq, bv] w fun e w' => e = .returned (errV (shapeE sa seq b)) ∧ Keeps (fun _ => False) w w' := by
  have hka := (Keeps.refl (fun _ => False) w).alloc (.cells (saC sa) 23)
  have hra := RowAt.new w (saC sa) 23
  have HPK := Lib.hid (peek_any bv b (w.alloc (.cells (saC sa) 23)) (BRd.keeps hb hka))
  have HM := Lib.hid (fun w => emay_any sa seq w)
  obtain ⟨ba, bc, rfl, -, -⟩ := BAt.slice hb
  have HKA := Lib.hid hka
  have HRA := Lib.hid hra
  clear hb hka hra
  have hE : shapeE sa seq b = shapeE sa seq b := rfl
  have hpx : 0 ≤ (peekS b).1 ∧ (peekS b).1 ≤ 4294967295 ∧ 0 ≤ (peekS b).2.1 ∧ (peekS b).2.1 ≤ 4294967295 := by
    have h1 := val4_lt b
    have h2 := val4_lt (b.drop 4)
    unfold peekS
    split
    · simp
    · simp only
      omega
  obtain ⟨s, hsI⟩ : ∃ s : Int, (seq : Int) = s := ⟨_, rfl⟩
  have hs0 : 0 ≤ s := by omega
  -- what is told by tests
  have hT : shapeE sa seq b = if okN sa seq = false then 1 else if (peekS b).2.2 ≠ 0 ∨ (b.length : Int) < 36 then 8 else if (b.length : Int) % 4 ≠ 0 ∨ (peekS b).1 ≠ sa.spi ∨ (peekS b).2.1 ≠ s % 4294967296 then 4 else 0 := by
    unfold shapeE
    by_cases h1 : okN sa seq = false
    · rw [if_pos h1, if_pos h1]
    · rw [if_neg h1, if_neg h1]
      by_cases h2 : b.length < 36
      · rw [if_pos h2, if_pos (.inr (by omega))]
      · have hp : peekS b = (((val4 b : Nat) : Int), ((val4 (b.drop 4) : Nat) : Int), 0) := by unfold peekS; rw [if_neg (by omega)]
        rw [if_neg h2, hp]
        simp only
        rw [if_neg (show ¬ ((0 : Int) ≠ 0 ∨ (b.length : Int) < 36) by omega)]
        have e1 : (b.length % 4 ≠ 0) ↔ ((b.length : Int) % 4 ≠ 0) := by omega
        have e2 : (val4 (b.drop 4) ≠ seq % 4294967296) ↔ (((val4 (b.drop 4) : Nat) : Int) ≠ s % 4294967296) := by omega
        have e3 := or_congr e1 (or_congr (Iff.refl ((val4 b : Int) ≠ sa.spi)) e2)
        by_cases hc : b.length % 4 ≠ 0 ∨ (val4 b : Int) ≠ sa.spi ∨ val4 (b.drop 4) ≠ seq % 4294967296
        · rw [if_pos hc, if_pos (e3.1 hc)]
        · rw [if_neg hc, if_neg (fun h => hc (e3.2 h))]
  rw [hT]
  clear hT hE
  rw [hsI] at HM ⊢
  clear hsI hs
  generalize peekS b = pk at *
  obtain ⟨x, y, pe⟩ := pk
  simp only at hpx HPK ⊢
  generalize okN sa seq = ok at *
  obtain ⟨spi, key, salt, mac, esn, window⟩ := sa
  unfold saC at HKA HRA HM HPK ⊢
  simp only at HKA HRA HM HPK ⊢
  generalize hW0 : w.alloc (.cells #[.int .i64 spi, .string ⟨key.toArray⟩, .string ⟨salt.toArray⟩, .string ⟨mac.toArray⟩, .bool esn, .int .i64 window] 23) = w0 at HPK HKA HRA
  have HW0 := Lib.hid hW0
  clear hW0
  generalize b.length = L at *
  by_cases h1 : ok = false
  · subst h1
    rw [if_pos rfl]
    go_enter Tryd.func37, Tryd.ntmps37
    go_wp2_with fail
    rw [HW0.out]
    refine HPK.out.mono ?_
    rintro e w1 ⟨rfl, n1, rfl⟩
    have hk1 := HKA.out.drewN n1
    have hr1 := HRA.out.drewN n1
    generalize w0.drewN n1 = w1 at *
    have d0 := hr1.cell 0
    have d1 := hr1.cell 1
    have d2 := hr1.cell 2
    have d3 := hr1.cell 3
    have d4 := hr1.cell 4
    have d5 := hr1.cell 5
    clear HKA HRA HPK
    go_wp2_with fail
    refine (HM.out _).mono ?_
    rintro e w2 ⟨rfl, hk2⟩
    have HK := Lib.hid (hk1.trans hk2 (fun _ _ h => h))
    have c0 := (hr1.keeps hk2 (fun h => h)).cell 0
    clear hr1 d0 d1 d2 d3 d4 d5 hk1 hk2
    go_wp2
    go_ret
    exact ⟨rfl, HK.out⟩
  · obtain rfl : ok = true := by simpa using h1
    rw [if_neg h1]
    by_cases h2 : pe ≠ 0 ∨ (L : Int) < 36
    · rw [if_pos h2]
      by_cases h3 : pe = 0
      · have h4 : (L : Int) < 36 := by omega
        subst h3
        clear h2
        go_enter Tryd.func37, Tryd.ntmps37
        go_wp2_with fail
        rw [HW0.out]
        refine HPK.out.mono ?_
        rintro e w1 ⟨rfl, n1, rfl⟩
        have hk1 := HKA.out.drewN n1
        have hr1 := HRA.out.drewN n1
        generalize w0.drewN n1 = w1 at *
        have d0 := hr1.cell 0
        have d1 := hr1.cell 1
        have d2 := hr1.cell 2
        have d3 := hr1.cell 3
        have d4 := hr1.cell 4
        have d5 := hr1.cell 5
        clear HKA HRA HPK
        go_wp2_with fail
        refine (HM.out _).mono ?_
        rintro e w2 ⟨rfl, hk2⟩
        have HK := Lib.hid (hk1.trans hk2 (fun _ _ h => h))
        have c0 := (hr1.keeps hk2 (fun h => h)).cell 0
        clear hr1 d0 d1 d2 d3 d4 d5 hk1 hk2
        go_wp2
        go_ret
        exact ⟨rfl, HK.out⟩
      · clear h2
        go_enter Tryd.func37, Tryd.ntmps37
        go_wp2_with fail
        rw [HW0.out]
        refine HPK.out.mono ?_
        rintro e w1 ⟨rfl, n1, rfl⟩
        have hk1 := HKA.out.drewN n1
        have hr1 := HRA.out.drewN n1
        generalize w0.drewN n1 = w1 at *
        have d0 := hr1.cell 0
        have d1 := hr1.cell 1
        have d2 := hr1.cell 2
        have d3 := hr1.cell 3
        have d4 := hr1.cell 4
        have d5 := hr1.cell 5
        clear HKA HRA HPK
        go_wp2_with fail
        refine (HM.out _).mono ?_
        rintro e w2 ⟨rfl, hk2⟩
        have HK := Lib.hid (hk1.trans hk2 (fun _ _ h => h))
        have c0 := (hr1.keeps hk2 (fun h => h)).cell 0
        clear hr1 d0 d1 d2 d3 d4 d5 hk1 hk2
        go_wp2
        go_ret
        exact ⟨rfl, HK.out⟩
    · rw [if_neg h2]
      obtain rfl : pe = 0 := by omega
      have h4 : ¬ (L : Int) < 36 := by omega
      clear h2
      have hL4 : (L : Int).tmod 4 = (L : Int) % 4 := Int.tmod_eq_emod_of_nonneg (by omega)
      by_cases h5 : (L : Int) % 4 ≠ 0 ∨ x ≠ spi ∨ y ≠ s % 4294967296
      · rw [if_pos h5]
        by_cases h6 : (L : Int) % 4 = 0
        · by_cases h7 : x = spi
          · have h8 : ¬ y = s % 4294967296 := by omega
            subst h7
            clear h5
            go_enter Tryd.func37, Tryd.ntmps37
            go_wp2_with fail
            rw [HW0.out]
            refine HPK.out.mono ?_
            rintro e w1 ⟨rfl, n1, rfl⟩
            have hk1 := HKA.out.drewN n1
            have hr1 := HRA.out.drewN n1
            generalize w0.drewN n1 = w1 at *
            have d0 := hr1.cell 0
            have d1 := hr1.cell 1
            have d2 := hr1.cell 2
            have d3 := hr1.cell 3
            have d4 := hr1.cell 4
            have d5 := hr1.cell 5
            clear HKA HRA HPK
            go_wp2_with fail
            refine (HM.out _).mono ?_
            rintro e w2 ⟨rfl, hk2⟩
            have HK := Lib.hid (hk1.trans hk2 (fun _ _ h => h))
            have c0 := (hr1.keeps hk2 (fun h => h)).cell 0
            clear hr1 d0 d1 d2 d3 d4 d5 hk1 hk2
            go_wp2
            go_ret
            exact ⟨rfl, HK.out⟩
          · clear h5
            go_enter Tryd.func37, Tryd.ntmps37
            go_wp2_with fail
            rw [HW0.out]
            refine HPK.out.mono ?_
            rintro e w1 ⟨rfl, n1, rfl⟩
            have hk1 := HKA.out.drewN n1
            have hr1 := HRA.out.drewN n1
            generalize w0.drewN n1 = w1 at *
            have d0 := hr1.cell 0
            have d1 := hr1.cell 1
            have d2 := hr1.cell 2
            have d3 := hr1.cell 3
            have d4 := hr1.cell 4
            have d5 := hr1.cell 5
            clear HKA HRA HPK
            go_wp2_with fail
            refine (HM.out _).mono ?_
            rintro e w2 ⟨rfl, hk2⟩
            have HK := Lib.hid (hk1.trans hk2 (fun _ _ h => h))
            have c0 := (hr1.keeps hk2 (fun h => h)).cell 0
            clear hr1 d0 d1 d2 d3 d4 d5 hk1 hk2
            go_wp2
            go_ret
            exact ⟨rfl, HK.out⟩
        · clear h5
          go_enter Tryd.func37, Tryd.ntmps37
          go_wp2_with fail
          rw [HW0.out]
          refine HPK.out.mono ?_
          rintro e w1 ⟨rfl, n1, rfl⟩
          have hk1 := HKA.out.drewN n1
          have hr1 := HRA.out.drewN n1
          generalize w0.drewN n1 = w1 at *
          have d0 := hr1.cell 0
          have d1 := hr1.cell 1
          have d2 := hr1.cell 2
          have d3 := hr1.cell 3
          have d4 := hr1.cell 4
          have d5 := hr1.cell 5
          clear HKA HRA HPK
          go_wp2_with fail
          refine (HM.out _).mono ?_
          rintro e w2 ⟨rfl, hk2⟩
          have HK := Lib.hid (hk1.trans hk2 (fun _ _ h => h))
          have c0 := (hr1.keeps hk2 (fun h => h)).cell 0
          clear hr1 d0 d1 d2 d3 d4 d5 hk1 hk2
          go_wp2
          go_ret
          exact ⟨rfl, HK.out⟩
      · rw [if_neg h5]
        have h6 : (L : Int) % 4 = 0 := by omega
        have h7 : x = spi := by omega
        have h8 : y = s % 4294967296 := by omega
        have hz : 0 ≤ s % 4294967296 ∧ s % 4294967296 ≤ 4294967295 := by omega
        clear h5
        subst h7
        go_enter Tryd.func37, Tryd.ntmps37
        go_wp2_with fail
        rw [HW0.out]
        refine HPK.out.mono ?_
        rintro e w1 ⟨rfl, n1, rfl⟩
        have hk1 := HKA.out.drewN n1
        have hr1 := HRA.out.drewN n1
        generalize w0.drewN n1 = w1 at *
        have d0 := hr1.cell 0
        have d1 := hr1.cell 1
        have d2 := hr1.cell 2
        have d3 := hr1.cell 3
        have d4 := hr1.cell 4
        have d5 := hr1.cell 5
        clear HKA HRA HPK
        go_wp2_with fail
        refine (HM.out _).mono ?_
        rintro e w2 ⟨rfl, hk2⟩
        have HK := Lib.hid (hk1.trans hk2 (fun _ _ h => h))
        have c0 := (hr1.keeps hk2 (fun h => h)).cell 0
        clear hr1 d0 d1 d2 d3 d4 d5 hk1 hk2
        go_wp2
        go_ret
        exact ⟨rfl, HK.out⟩
end Go.Proofs.YtekaoknpjpbjgaaDoor
