/- Words for slices of bytes; rows one behind the other (redoubtref01.Both). -/
import Derived.Test.YtkcnllbfinjaiaaDoorSl
namespace Go.Proofs.YtkcnllbfinjaiaaDoor
open Go.RowKit

def bcell (b : UInt8) : Value := .int .u8 b.toNat
def bcells (l : List UInt8) : List Value := l.map bcell
theorem bcells_length (l : List UInt8) : (bcells l).length = l.length := by simp [bcells]
theorem bcells_append (l m : List UInt8) : bcells (l ++ m) = bcells l ++ bcells m := by simp [bcells]
theorem bcells_one (l : List UInt8) : ∀ u ∈ bcells l, u.oneCell' = true := fun u hu => by
  obtain ⟨b, _, rfl⟩ := List.mem_map.1 hu
  rfl
theorem bcells_get {l : List UInt8} {i : Nat} (h : i < l.length) : (bcells l)[i]? = some (.int .u8 (l[i].toNat : Int)) := by
  simp [bcells, bcell, h]

/-- v reads the bytes l, in a block of p. -/
def BAt (w : World) (p : Nat → Prop) (v : Value) (l : List UInt8) : Prop := SAt w p 1 v l.length (bcells l)
/-- v is the call's own, the bytes l. -/
def BOwn (w : World) (base : Nat) (v : Value) (l : List UInt8) : Prop := Own w base 5 1 v l.length (bcells l)

theorem BAt.keeps {w w' : World} {p : Nat → Prop} {v : Value} {l : List UInt8} {S : Nat → Prop} (h : BAt w p v l) (hk : Keeps S w w') (hS : ∀ b, p b → ¬ S b) : BAt w' p v l := SAt.keeps h hk hS
theorem BAt.mono {w : World} {p q : Nat → Prop} {v : Value} {l : List UInt8} (h : BAt w p v l) (hpq : ∀ b, p b → q b) : BAt w q v l := SAt.mono h hpq
theorem BAt.all {w : World} {p : Nat → Prop} {v : Value} {l : List UInt8} (h : BAt w p v l) : BAt w (fun _ => True) v l := h.mono fun _ _ => trivial
theorem BOwn.keeps {w w' : World} {base : Nat} {v : Value} {l : List UInt8} {S : Nat → Prop} (h : BOwn w base v l) (hk : Keeps S w w') (hS : ∀ b, v.ownBlock = some b → ¬ S b) : BOwn w' base v l := Own.keeps h hk hS
theorem BOwn.bat {w : World} {base : Nat} {v : Value} {l : List UInt8} (h : BOwn w base v l) : BAt w (fun b => v.ownBlock = some b) v l := Own.sat h
theorem BOwn.ge {w : World} {base : Nat} {v : Value} {l : List UInt8} (h : BOwn w base v l) : BAt w (fun b => base ≤ b) v l := h.bat.mono fun b hb => (Own.block h b hb).1
theorem BOwn.block {w : World} {base : Nat} {v : Value} {l : List UInt8} (h : BOwn w base v l) (b : Nat) (hb : v.ownBlock = some b) : base ≤ b ∧ b < w.heap.size := Own.block h b hb
theorem BOwn.mono {w : World} {base base' : Nat} {v : Value} {l : List UInt8} (h : BOwn w base v l) (hb : base' ≤ base) : BOwn w base' v l := Own.mono h hb
theorem BOwn.nil (w : World) (base : Nat) : BOwn w base (.slice none 0 0) [] := Own.nil w base _ 1
theorem BAt.nil (w : World) (p : Nat → Prop) : BAt w p (.slice none 0 0) [] := SAt.nil w p 1

/-- An element's address and what it holds. -/
theorem BAt.get {w : World} {p : Nat → Prop} {v : Value} {l : List UInt8} (h : BAt w p v l) (h0 : 0 < l.length) :
    ∃ b off c, v = .slice (some ⟨b, off, none⟩) l.length c ∧ l.length ≤ c ∧ c ≤ maxLen ∧ p b ∧ ∀ i (hi : i < l.length), w.cell? ⟨b, off + i, none⟩ = some (.int .u8 (l[i].toNat : Int)) := by
  obtain ⟨_, a, c, rfl, h3, h4, h5⟩ := h
  rcases h5 with h5 | ⟨b, off, hb, rfl, hc⟩
  · have h6 := bcells_length l
    rw [h5, List.length_nil] at h6
    omega
  · exact ⟨b, off, c, rfl, h3, h4, hb, fun i hi => hc i _ (bcells_get hi)⟩
theorem BAt.slice {w : World} {p : Nat → Prop} {v : Value} {l : List UInt8} (h : BAt w p v l) : ∃ a c, v = .slice a l.length c ∧ l.length ≤ c ∧ c ≤ maxLen := SAt.slice h

theorem info_u8 : (Tryd.prog.info? 5).map (fun i => (i.zero, i.size, i.bytes)) = some (some (.int .u8 0), 1, 1) := by kernel_rfl

/-- Bytes behind bytes. -/
theorem run_append_bytes {w : World} {base : Nat} {v x : Value} {l m : List UInt8} {p : Nat → Prop} {ty : TypeId} (hown : BOwn w base v l) (hx : BAt w p x m) (hmax : l.length + m.length ≤ 140737488355328) (hbase : base ≤ w.heap.size) :
    ∃ v' w', (Builtin.append_ #[22, 22] ty #[v, x]).run Tryd.prog w = .ok v' w' ∧ BOwn w' base v' (l ++ m) ∧ Keeps (fun b => v.ownBlock = some b) w w' ∧
      (v'.ownBlock = v.ownBlock ∨ ∃ b, v'.ownBlock = some b ∧ w.heap.size ≤ b) := by
  obtain ⟨i, hi, hz, hs, hb⟩ := info_parts info_u8
  obtain ⟨v', w', hr, ha⟩ := run_append (P := Tryd.prog) (ty := ty) (tx := 22) Tryd.underlying22 hi hz hs hb (by rfl) hown (SAt.src Tryd.underlying22 hx (bcells_one m) (by omega))
    (by simp only [maxLen]; omega) (by omega) hbase
  exact ⟨v', w', hr, by have := ha.own; rwa [← bcells_append, ← List.length_append] at this, ha.keeps, ha.place⟩

/-- A call's end: bytes of its own; nothing that was there has turned. -/
def Gives (l : List UInt8) (w : World) (e : Ending) (w' : World) : Prop := ∃ v, e = .returned v ∧ BOwn w' w.heap.size v l ∧ Keeps (fun _ => False) w w'

/-- v reads slices, each of which reads bytes. -/
def BBAt (w : World) (p q : Nat → Prop) (v : Value) (ls : List (List UInt8)) : Prop :=
  ∃ vs : List Value, vs.length = ls.length ∧ SAt w p 1 v vs.length vs ∧ ∀ (i : Nat) (x : Value) (l : List UInt8), vs[i]? = some x → ls[i]? = some l → BAt w q x l
theorem BBAt.keeps {w w' : World} {p q : Nat → Prop} {v : Value} {ls : List (List UInt8)} {S : Nat → Prop} (h : BBAt w p q v ls) (hk : Keeps S w w') (hS : ∀ b, p b → ¬ S b) (hS' : ∀ b, q b → ¬ S b) : BBAt w' p q v ls := by
  obtain ⟨vs, h1, h2, h3⟩ := h
  exact ⟨vs, h1, h2.keeps hk hS, fun i x l hx hl => (h3 i x l hx hl).keeps hk hS'⟩
theorem BBAt.get {w : World} {p q : Nat → Prop} {v : Value} {ls : List (List UInt8)} (h : BBAt w p q v ls) (h0 : 0 < ls.length) :
    ∃ b off c, v = .slice (some ⟨b, off, none⟩) ls.length c ∧ ls.length ≤ c ∧ c ≤ maxLen ∧ p b ∧ ∀ i (hi : i < ls.length), ∃ x, w.cell? ⟨b, off + i, none⟩ = some x ∧ BAt w q x ls[i] := by
  obtain ⟨vs, h1, ⟨_, a, c, rfl, h3, h4, h5⟩, h6⟩ := h
  rcases h5 with h5 | ⟨b, off, hb, rfl, hc⟩
  · rw [h5] at h1; simp at h1; omega
  · refine ⟨b, off, c, by rw [h1], by omega, h4, hb, fun i hi => ⟨vs[i]'(by omega), hc i _ (by simp), h6 i _ _ (by simp) (by simp)⟩⟩
theorem BBAt.slice {w : World} {p q : Nat → Prop} {v : Value} {ls : List (List UInt8)} (h : BBAt w p q v ls) : ∃ a c, v = .slice a ls.length c ∧ ls.length ≤ c ∧ c ≤ maxLen := by
  obtain ⟨vs, h1, ⟨_, a, c, h2, h3, h4, _⟩, _⟩ := h
  exact ⟨a, c, by rw [h2, h1], by omega, h4⟩

theorem flat_le (ls : List (List UInt8)) (k : Nat) : (ls.take k).flatten.length ≤ ls.flatten.length := by
  have h := congrArg (fun x => (List.flatten x).length) (List.take_append_drop k ls)
  simp only [List.flatten_append, List.length_append] at h
  omega

set_option maxRecDepth 100000 in
set_option maxHeartbeats 1000000 in
theorem both_any (v : Value) (ls : List (List UInt8)) (w : World) (h : BBAt w (· < w.heap.size) (· < w.heap.size) v ls) (hl : ls.flatten.length ≤ 140737488355328) :
    Calls Tryd.prog 7 #[v] w (Gives ls.flatten w) := by
  obtain ⟨a, c, rfl, hc, hm⟩ := h.slice
  simp only [maxLen] at hm
  go_enter Tryd.func7, Tryd.ntmps7
  go_wp2
  go_loopw [3, 4] (fun u3 u4 wr => ∃ k : Nat, k ≤ ls.length ∧ u4 = .int .i64 k ∧ BOwn wr w.heap.size u3 (ls.take k).flatten ∧ Keeps (fun _ => False) w wr) (fun _ u4 _ => ls.length - (intOf u4).toNat)
  case atStart => exact ⟨0, by omega, rfl, BOwn.nil _ _, Keeps.refl _ _⟩
  case round =>
    obtain ⟨k, hk, rfl, ho, hkw⟩ := hrel
    by_cases hlt : k < ls.length
    · obtain ⟨b, off, c', he, -, -, hb, hcell⟩ := h.get (by omega)
      obtain ⟨rfl, -, rfl⟩ : a = some ⟨b, off, none⟩ ∧ True ∧ c = c' := by
        simp only [Value.slice.injEq] at he
        exact ⟨he.1, trivial, he.2.2⟩
      obtain ⟨x, hx, hbx⟩ := hcell k hlt
      have hx' := hkw.cell hx (fun h => h)
      have hle := flat_le ls (k + 1)
      rw [List.take_succ_eq_append_getElem hlt, List.flatten_append, List.length_append] at hle
      obtain ⟨v', w', hrun, ho', hk', -⟩ := run_append_bytes (ty := 22) ho (hbx.keeps hkw (fun _ _ h => h)) (by simpa using Nat.le_trans hle hl) hkw.size
      have HR := Lib.hid hrun
      clear hrun hcell he hle hx
      go_wp2_with (at_builtin; refine Lib.wpList_append_run _ rfl _ _ _ _ rfl _ _ rfl rfl _ _ HR.out ?_)
      go_roundw
      case rel => exact ⟨k + 1, by omega, by go_num, by rw [List.take_succ_eq_append_getElem hlt, List.flatten_append]; simpa using ho', hkw.from hk' fun i hi => (ho.block i hi).1⟩
      case measure => simp [intOf]; omega
    · obtain rfl : k = ls.length := by omega
      go_wp2
      go_ret
      exact ⟨_, rfl, by simpa using ho, hkw⟩

end Go.Proofs.YtkcnllbfinjaiaaDoor
