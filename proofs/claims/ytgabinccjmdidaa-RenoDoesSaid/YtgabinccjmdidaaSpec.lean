/- What reno's window does, as plain functions on six values. -/
import Derived.Test.YtgabinccjmdidaaBase
namespace Go.Proofs.Ytgabinccjmdidaa
open Go.RowKit

/-- mss, size, edge, dups, paid, recovery. -/
structure St where
  m : Int
  s : Int
  e : Int
  d : Int
  p : Int
  r : Bool
def St.cells (x : St) : Array Value := #[.int .i64 x.m, .int .i64 x.s, .int .i64 x.e, .int .i64 x.d, .int .i64 x.p, .bool x.r]
def cap (n : Int) : Int := min n 65535
def bad (m : Int) : Bool := decide (m < 1) || decide (65535 < m)
def badN (n : Int) : Bool := decide (n < 1) || decide (1000000 < n)
def newS (m : Int) : St := ⟨m, cap (2 * m), 65535, 0, 0, false⟩
def ackS (x : St) (n : Int) : St :=
  if badN n then x else
  if x.r then ⟨x.m, x.e, x.e, 0, x.p, false⟩ else
  if x.s < x.e then ⟨x.m, cap (x.s + min n x.m), x.e, 0, x.p, false⟩ else
  if x.s ≤ x.p + n then ⟨x.m, cap (x.s + x.m), x.e, 0, x.p + n - x.s, false⟩ else ⟨x.m, x.s, x.e, 0, x.p + n, false⟩
def ackE (n : Int) : Int := if badN n then 1 else 0
def half (x : St) (f : Int) : Int := cap (max (f / 2) (2 * x.m))
def lostS (x : St) (f : Int) : St := if f < 0 then x else ⟨x.m, x.m, half x f, 0, 0, false⟩
def negE (f : Int) : Int := if f < 0 then 1 else 0
def dupS (x : St) (f : Int) : St :=
  if f < 0 then x else
  if x.r then ⟨x.m, cap (x.s + x.m), x.e, x.d + 1, x.p, true⟩ else
  if x.d = 2 then ⟨x.m, cap (half x f + 3 * x.m), half x f, 3, 0, true⟩ else ⟨x.m, x.s, x.e, x.d + 1, x.p, false⟩
def dupB (x : St) (f : Int) : Bool := decide (0 ≤ f) && (!x.r && decide (x.d = 2))
def resS (x : St) (m : Int) : St := if bad m then x else ⟨m, max x.s m, max x.e (cap (2 * m)), x.d, x.p, x.r⟩
def resE (m : Int) : Int := if bad m then 1 else 0

/-- After k calls. -/
structure Ok (k : Nat) (x : St) : Prop where
  m0 : 1 ≤ x.m
  m1 : x.m ≤ 65535
  s0 : x.m ≤ x.s
  s1 : x.s ≤ 65535
  e0 : x.m ≤ x.e
  e1 : x.e ≤ 65535
  d0 : 0 ≤ x.d
  d1 : x.d ≤ k
  p0 : 0 ≤ x.p
  p1 : x.p ≤ 1000000 * k
theorem Ok.mono {k l : Nat} {x : St} (h : Ok k x) (hl : k ≤ l) : Ok l x := by
  obtain ⟨a, b, c, d, e, f, g, i, j, q⟩ := h
  exact ⟨a, b, c, d, e, f, g, by omega, j, by omega⟩
theorem badN_false {n : Int} (h : badN n = false) : 1 ≤ n ∧ n ≤ 1000000 := by simp [badN] at h; omega
theorem bad_false {n : Int} (h : bad n = false) : 1 ≤ n ∧ n ≤ 65535 := by simp [bad] at h; omega
theorem new_ok {m : Int} (h : bad m = false) : Ok 0 (newS m) := by
  have := bad_false h
  constructor <;> simp only [newS, cap] <;> omega
theorem ack_ok {k : Nat} {x : St} (n : Int) (h : Ok k x) : Ok (k + 1) (ackS x n) := by
  unfold ackS
  by_cases hb : badN n = true
  · rw [if_pos hb]; exact h.mono (by omega)
  · have := badN_false (by simpa using hb)
    rw [if_neg hb]
    obtain ⟨a, b, c, d, e, f, g, i, j, q⟩ := h
    split
    · constructor <;> simp only [] <;> omega
    · split
      · constructor <;> simp only [cap] <;> omega
      · split
        · constructor <;> simp only [cap] <;> omega
        · constructor <;> simp only [] <;> omega
theorem half_bd {k : Nat} {x : St} (f : Int) (h : Ok k x) : x.m ≤ half x f ∧ half x f ≤ 65535 := by
  obtain ⟨a, b, c, d, e, f, g, i, j, q⟩ := h
  unfold half cap; omega
theorem lost_ok {k : Nat} {x : St} (f : Int) (h : Ok k x) : Ok (k + 1) (lostS x f) := by
  have hh := half_bd f h
  unfold lostS
  by_cases hb : f < 0
  · rw [if_pos hb]; exact h.mono (by omega)
  · rw [if_neg hb]
    obtain ⟨a, b, c, d, e, f, g, i, j, q⟩ := h
    constructor <;> simp only [] <;> omega
theorem dup_ok {k : Nat} {x : St} (f : Int) (h : Ok k x) : Ok (k + 1) (dupS x f) := by
  have hh := half_bd f h
  unfold dupS
  by_cases hb : f < 0
  · rw [if_pos hb]; exact h.mono (by omega)
  · rw [if_neg hb]
    obtain ⟨a, b, c, d, e, f, g, i, j, q⟩ := h
    split
    · constructor <;> simp only [cap] <;> omega
    · split
      · constructor <;> simp only [cap] <;> omega
      · constructor <;> simp only [] <;> omega
theorem res_ok {k : Nat} {x : St} (m : Int) (h : Ok k x) : Ok (k + 1) (resS x m) := by
  unfold resS
  by_cases hb : bad m = true
  · rw [if_pos hb]; exact h.mono (by omega)
  · have := bad_false (by simpa using hb)
    rw [if_neg hb]
    obtain ⟨a, b, c, d, e, f, g, i, j, q⟩ := h
    constructor <;> simp only [cap] <;> omega

/-- A method's end: its answer; the window's new cells; all else as it was. -/
def Meth (b : Nat) (T : TypeId) (v : Value) (x : St) (w : World) (e : Ending) (w' : World) : Prop :=
  e = .returned v ∧ RowAt w' b x.cells T ∧ Keeps (· = b) w w'
/-- A making's end. -/
def Makes (T : TypeId) (x : St) (w : World) (e : Ending) (w' : World) : Prop :=
  ∃ b, w.heap.size ≤ b ∧ e = .returned (.tuple #[.pointer (some ⟨b, 0, none⟩), .int .i64 0]) ∧ RowAt w' b x.cells T ∧ Keeps (fun _ => False) w w'
theorem cells_eq {x y : St} (hm : x.m = y.m) (hs : x.s = y.s) (he : x.e = y.e) (hd : x.d = y.d) (hp : x.p = y.p) (hr : x.r = y.r) : x.cells = y.cells := by
  cases x; cases y; simp_all

end Go.Proofs.Ytgabinccjmdidaa
