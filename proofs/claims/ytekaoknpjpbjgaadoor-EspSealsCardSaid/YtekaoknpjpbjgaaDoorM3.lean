/- Words, walks and plain laws that the claim leans on, part 3. -/
import Derived.Test.YtekaoknpjpbjgaaDoorM2
import Derived.Deep.AppendSrc
import Derived.Deep.Upon
import Derived.Lib.AppendZeros

/-! Words for slices: what a slice reads; a slice of the call's own; append. -/
namespace Go.Proofs.YtekaoknpjpbjgaaDoor
set_option linter.unusedVariables false
set_option linter.unusedSimpArgs false
open Go.RowKit

/-- v is a slice of n elements (size cells each); it reads the cells xs, in a block of p. -/
def SAt (w : World) (p : Nat → Prop) (size : Nat) (v : Value) (n : Nat) (xs : List Value) : Prop :=
  xs.length = n * size ∧ ∃ a c, v = .slice a n c ∧ n ≤ c ∧ c ≤ maxLen ∧
    (xs = [] ∨ ∃ b off, p b ∧ a = some ⟨b, off, none⟩ ∧ ∀ j u, xs[j]? = some u → w.cell? ⟨b, off + j, none⟩ = some u)
/-- v is nil, or a slice in a row of the call's own, of a block from base on. -/
def Own (w : World) (base : Nat) (T : TypeId) (size : Nat) (v : Value) (n : Nat) (xs : List Value) : Prop :=
  xs.length = n * size ∧ (∀ u ∈ xs, u.oneCell' = true) ∧ ((v = .slice none 0 0 ∧ n = 0 ∧ xs = []) ∨
    ∃ g off c cs, base ≤ g ∧ v = .slice (some ⟨g, off, none⟩) n c ∧ n ≤ c ∧ c ≤ maxLen ∧ RowAt w g cs T ∧ off + c * size ≤ cs.size ∧ ∀ j, j < n * size → cs[off + j]? = xs[j]?)

theorem SAt.keeps {w w' : World} {p : Nat → Prop} {size : Nat} {v : Value} {n : Nat} {xs : List Value} {S : Nat → Prop} (h : SAt w p size v n xs) (hk : Keeps S w w') (hS : ∀ b, p b → ¬ S b) : SAt w' p size v n xs := by
  obtain ⟨h1, a, c, h2, h3, h4, h5⟩ := h
  refine ⟨h1, a, c, h2, h3, h4, h5.imp id ?_⟩
  rintro ⟨b, off, hb, ha, hc⟩
  exact ⟨b, off, hb, ha, fun j u hu => hk.cell (hc j u hu) (hS b hb)⟩
theorem SAt.mono {w : World} {p q : Nat → Prop} {size : Nat} {v : Value} {n : Nat} {xs : List Value} (h : SAt w p size v n xs) (hpq : ∀ b, p b → q b) : SAt w q size v n xs := by
  obtain ⟨h1, a, c, h2, h3, h4, h5⟩ := h
  refine ⟨h1, a, c, h2, h3, h4, h5.imp id ?_⟩
  rintro ⟨b, off, hb, ha, hc⟩
  exact ⟨b, off, hpq b hb, ha, hc⟩
/-- The block lies in the heap. -/
theorem SAt.lt {w : World} {p : Nat → Prop} {size : Nat} {v : Value} {n : Nat} {xs : List Value} (h : SAt w p size v n xs) : SAt w (fun b => p b ∧ b < w.heap.size) size v n xs := by
  obtain ⟨h1, a, c, h2, h3, h4, h5⟩ := h
  refine ⟨h1, a, c, h2, h3, h4, ?_⟩
  rcases h5 with h5 | ⟨b, off, hb, ha, hc⟩
  · exact .inl h5
  · by_cases h0 : xs = []
    · exact .inl h0
    · obtain ⟨x, r, rfl⟩ := List.exists_cons_of_ne_nil h0
      exact .inr ⟨b, off, ⟨hb, World.block_lt_of_cell? w _ (hc 0 x rfl)⟩, ha, hc⟩
theorem SAt.slice {w : World} {p : Nat → Prop} {size : Nat} {v : Value} {n : Nat} {xs : List Value} (h : SAt w p size v n xs) : ∃ a c, v = .slice a n c ∧ n ≤ c ∧ c ≤ maxLen := by
  obtain ⟨_, a, c, h2, h3, h4, _⟩ := h
  exact ⟨a, c, h2, h3, h4⟩
theorem SAt.nil (w : World) (p : Nat → Prop) (size : Nat) : SAt w p size (.slice none 0 0) 0 [] := ⟨by simp, none, 0, rfl, Nat.le_refl _, by simp [maxLen], .inl rfl⟩
theorem SAt.empty (w : World) (p : Nat → Prop) (size : Nat) (a : Option Addr) (c : Nat) (hc : c ≤ maxLen) : SAt w p size (.slice a 0 c) 0 [] := ⟨by simp, a, c, rfl, Nat.zero_le _, hc, .inl rfl⟩

theorem Own.keeps {w w' : World} {base : Nat} {T : TypeId} {size : Nat} {v : Value} {n : Nat} {xs : List Value} {S : Nat → Prop} (h : Own w base T size v n xs) (hk : Keeps S w w') (hS : ∀ b, v.ownBlock = some b → ¬ S b) : Own w' base T size v n xs := by
  obtain ⟨h1, h0, h2⟩ := h
  refine ⟨h1, h0, h2.imp id ?_⟩
  rintro ⟨g, off, c, cs, hb, rfl, h3, h4, hr, h5, h6⟩
  exact ⟨g, off, c, cs, hb, rfl, h3, h4, hr.keeps hk (hS g rfl), h5, h6⟩
theorem Own.mono {w : World} {base base' : Nat} {T : TypeId} {size : Nat} {v : Value} {n : Nat} {xs : List Value} (h : Own w base T size v n xs) (hb : base' ≤ base) : Own w base' T size v n xs := by
  obtain ⟨h1, h0, h2⟩ := h
  refine ⟨h1, h0, h2.imp id ?_⟩
  rintro ⟨g, off, c, cs, h, r⟩
  exact ⟨g, off, c, cs, Nat.le_trans hb h, r⟩
theorem Own.block {w : World} {base : Nat} {T : TypeId} {size : Nat} {v : Value} {n : Nat} {xs : List Value} (h : Own w base T size v n xs) (b : Nat) (hb : v.ownBlock = some b) : base ≤ b ∧ b < w.heap.size := by
  obtain ⟨h1, h0, h2⟩ := h
  rcases h2 with ⟨rfl, _⟩ | ⟨g, off, c, cs, hbg, rfl, h3, h4, hr, h5, h6⟩
  · simp [Value.ownBlock] at hb
  · obtain rfl : g = b := by simpa [Value.ownBlock] using hb
    exact ⟨hbg, hr.lt⟩
theorem Own.nil (w : World) (base : Nat) (T : TypeId) (size : Nat) : Own w base T size (.slice none 0 0) 0 [] := ⟨by simp, by simp, .inl ⟨rfl, rfl, rfl⟩⟩
/-- What is owned reads. -/
theorem Own.sat {w : World} {base : Nat} {T : TypeId} {size : Nat} {v : Value} {n : Nat} {xs : List Value} (h : Own w base T size v n xs) : SAt w (fun b => v.ownBlock = some b) size v n xs := by
  obtain ⟨h1, h0, h2⟩ := h
  rcases h2 with ⟨rfl, rfl, rfl⟩ | ⟨g, off, c, cs, hbg, rfl, h3, h4, hr, h5, h6⟩
  · exact ⟨h1, none, 0, rfl, Nat.le_refl _, by simp [maxLen], .inl rfl⟩
  · refine ⟨h1, _, c, rfl, h3, h4, .inr ⟨g, off, rfl, rfl, fun j u hu => ?_⟩⟩
    rw [hr.cell, h6 j (by rw [← h1]; exact (List.getElem?_eq_some_iff.1 hu).1), hu]

/-- Many cells of a row are written. -/
theorem RowAt.setCells {b T : Nat} (vs : List Value) : ∀ (o : Nat) (w : World) (cs : Array Value), RowAt w b cs T → o + vs.length ≤ cs.size →
    ∃ cs', RowAt (w.setCells b o vs) b cs' T ∧ cs'.size = cs.size ∧ (∀ j, j < vs.length → cs'[o + j]? = vs[j]?) ∧ ∀ k, (k < o ∨ o + vs.length ≤ k) → cs'[k]? = cs[k]? := by
  induction vs with
  | nil => exact fun o w cs h _ => ⟨cs, h, rfl, fun j hj => absurd hj (by simp), fun _ _ => rfl⟩
  | cons v r ih =>
    intro o w cs h hl
    simp only [List.length_cons] at hl
    obtain ⟨cs', h1, h2, h3, h4⟩ := ih (o + 1) (w.setCell ⟨b, o, none⟩ v) (cs.setIfInBounds o v) (h.set o v) (by simp; omega)
    refine ⟨cs', h1, by simpa using h2, fun j hj => ?_, fun k hk => ?_⟩
    · cases j with
      | zero => rw [Nat.add_zero, h4 o (.inl (by omega)), Array.getElem?_setIfInBounds_self_of_lt (by omega)]; rfl
      | succ j =>
        have := h3 j (by simp only [List.length_cons] at hj; omega)
        rw [show o + (j + 1) = o + 1 + j by omega, this]; rfl
    · simp only [List.length_cons] at hk
      rw [h4 k (by omega), Array.getElem?_setIfInBounds_ne (by omega)]
theorem Keeps.setCells {S : Nat → Prop} {a : World} {b : Nat} (hS : S b ∨ a.heap.size ≤ b) (vs : List Value) : ∀ (o : Nat) (w : World), Keeps S a w → Keeps S a (w.setCells b o vs) := by
  induction vs with
  | nil => exact fun _ _ h => h
  | cons v r ih => exact fun o w h => ih (o + 1) _ (h.setCell _ _ hS)

/-- What is appended, out of a slice that reads. -/
theorem SAt.src {P : Program} {w : World} {p : Nat → Prop} {size : Nat} {v : Value} {n : Nat} {xs : List Value} {tx e' : TypeId} (hk : P.underlying tx = some (.slice e')) (h : SAt w p size v n xs) (h1 : ∀ u ∈ xs, u.oneCell' = true) (hs : 0 < size) :
    Src P size tx v n xs w := by
  obtain ⟨hl, a, c, rfl, hnc, hcm, hx⟩ := h
  rcases hx with rfl | ⟨b, off, _, rfl, hc⟩
  · have hn : n = 0 := by
      rcases Nat.eq_zero_or_pos n with h | h
      · exact h
      · have := Nat.mul_pos h hs
        simp at hl; omega
    subst hn
    cases a with
    | none => exact Src.ofNil w hk c
    | some a => exact Src.ofSlice w hk a 0 c [] (by simp) (fun j u hu => by simp at hu) (fun _ hu => by cases hu)
  · exact Src.ofSlice w hk _ n c xs hl (fun j u hu => by rw [addr_add]; exact hc j u hu) h1

/-- How an append ends. -/
structure Appended (w : World) (base : Nat) (T : TypeId) (size : Nat) (v : Value) (v' : Value) (w' : World) (n : Nat) (xs : List Value) : Prop where
  own : Own w' base T size v' n xs
  keeps : Keeps (fun b => v.ownBlock = some b) w w'
  place : v'.ownBlock = v.ownBlock ∨ ∃ b, v'.ownBlock = some b ∧ w.heap.size ≤ b
  none : v'.ownBlock = Option.none → n = 0

theorem run_append {P : Program} {w : World} {base : Nat} {t tx ty e : TypeId} {i : TypeInfo} {z : Value} {size bytes : Nat} {v x : Value} {n m : Nat} {xs news : List Value}
    (ht : P.underlying t = some (.slice e)) (hi : P.info? e = some i) (hz : i.zero = some z) (hsz : i.size = size) (hby : i.bytes = bytes) (hzs : z.cells.size = size)
    (hown : Own w base e size v n xs) (hs : Src P size tx x m news w) (hmax : n + m ≤ maxLen) (hbytes : (n + m) * bytes ≤ 140737488355328) (hbase : base ≤ w.heap.size) :
    ∃ v' w', (Builtin.append_ #[t, tx] ty #[v, x]).run P w = .ok v' w' ∧ Appended w base e size v v' w' (n + m) (xs ++ news) := by
  subst hsz hby
  have hmax' := hmax
  simp only [maxLen] at hmax'
  obtain ⟨h1, h0, h2⟩ := hown
  have hlen : (xs ++ news).length = (n + m) * i.size := by rw [List.length_append, h1, hs.newsLen, Nat.add_mul]
  have hall : ∀ u ∈ xs ++ news, u.oneCell' = true := fun u hu => (List.mem_append.1 hu).elim (h0 u) (hs.one u)
  have grown : ∀ (old : Nat), old < n + m → ∀ (S : Nat → Prop),
      Own (w.drew.alloc (.cells ((xs ++ news).toArray ++ Builtin.zeroCells z.cells (grownCap w (n + m) old e - (n + m))) e)) base e i.size (.slice (some ⟨w.heap.size, 0, none⟩) (n + m) (grownCap w (n + m) old e)) (n + m) (xs ++ news) ∧
      Keeps S w (w.drew.alloc (.cells ((xs ++ news).toArray ++ Builtin.zeroCells z.cells (grownCap w (n + m) old e - (n + m))) e)) := by
    intro old ho S
    have hge := grownCap_ge w (n + m) old e
    refine ⟨⟨hlen, hall, .inr ⟨w.heap.size, 0, _, _, hbase, rfl, hge, grownCap_le_maxLen w (n + m) old e hmax, RowAt.new w.drew _ _, ?_, fun j hj => ?_⟩⟩, ((Keeps.refl S w).drew).alloc _⟩
    · simp only [Array.size_append, List.size_toArray, size_zeroCells, hzs, hlen, ← Nat.add_mul, Nat.zero_add]
      exact Nat.mul_le_mul_right _ (by omega)
    · rw [Nat.zero_add, Array.getElem?_append_left (by rw [List.size_toArray, hlen]; exact hj)]
      simp
  rcases h2 with ⟨rfl, rfl, rfl⟩ | ⟨g, off, c, cs, hbg, rfl, h3, h4, hr, h5, h6⟩
  · by_cases hm : m = 0
    · subst hm
      have hn : news = [] := List.eq_nil_of_length_eq_zero (by simpa using hs.newsLen)
      subst hn
      have hrun := run_append_nothing (P := P) w t tx ty e i ht hi none 0 0 (Nat.le_refl _) x hs
      exact ⟨_, _, hrun, ⟨by simpa using Own.nil w base e i.size, Keeps.refl _ _, .inl rfl, fun _ => rfl⟩⟩
    · have hrun := run_append_grow_src (P := P) w t tx ty e i z ht hi hz none 0 0 [] (by simpa using run_firstCells_none (P := P) w.drew i.size 0 0 0) x m news hs (by omega) (by omega) (growslice_fits (by omega) hbytes)
      obtain ⟨g1, g2⟩ := grown 0 (by omega) (fun b => (Value.slice none 0 0).ownBlock = some b)
      exact ⟨_, _, hrun, ⟨g1, g2, .inr ⟨_, rfl, Nat.le_refl _⟩, fun h => by simp [Value.ownBlock] at h⟩⟩
  · by_cases hroom : n + m ≤ c
    · have hfit : off + n * i.size + news.length ≤ cs.size := by
        rw [hs.newsLen, Nat.add_assoc, ← Nat.add_mul]
        exact Nat.le_trans (Nat.add_le_add_left (Nat.mul_le_mul_right _ hroom) _) h5
      have hrun := run_append_room_src (P := P) w t tx ty e i ht hi g off n c x m news hs hroom
        (fun j hj => by rw [hr.cell, Array.getElem?_eq_getElem (by omega)]; rfl) (fun j _ => hr.frozen _)
      obtain ⟨cs', r1, r2, r3, r4⟩ := RowAt.setCells news (off + n * i.size) w cs hr hfit
      refine ⟨_, _, hrun, ⟨⟨hlen, hall, .inr ⟨g, off, c, cs', hbg, rfl, hroom, h4, r1, by omega, fun j hj => ?_⟩⟩, Keeps.setCells (S := fun b => (Value.slice (some ⟨g, off, none⟩) n c).ownBlock = some b) (.inl rfl) _ _ _ (Keeps.refl _ _), .inl rfl, fun h => by simp [Value.ownBlock] at h⟩⟩
      by_cases hjn : j < n * i.size
      · rw [r4 _ (.inl (by omega)), h6 j hjn, List.getElem?_append_left (by omega)]
      · have := r3 (j - n * i.size) (by rw [hs.newsLen]; rw [Nat.add_mul] at hj; omega)
        rw [show off + j = off + n * i.size + (j - n * i.size) by omega, this, List.getElem?_append_right (by omega), h1]
    · have hold : (Builtin.firstCells i.size n (.slice (some ⟨g, off, none⟩) n c)).run P w.drew = .ok xs.toArray w.drew :=
        run_firstCells_some w.drew i.size n ⟨g, off, none⟩ n c xs h1 (fun j u hu => by
          rw [addr_add]
          show w.cell? _ = _
          rw [hr.cell, h6 j (by rw [← h1]; exact (List.getElem?_eq_some_iff.1 hu).1), hu])
      have hrun := run_append_grow_src (P := P) w t tx ty e i z ht hi hz (some ⟨g, off, none⟩) n c xs hold x m news hs (by omega) (by omega) (growslice_fits (by omega) hbytes)
      obtain ⟨g1, g2⟩ := grown c (by omega) (fun b => (Value.slice (some ⟨g, off, none⟩) n c).ownBlock = some b)
      exact ⟨_, _, hrun, ⟨g1, g2, .inr ⟨_, rfl, Nat.le_refl _⟩, fun h => by simp [Value.ownBlock] at h⟩⟩

end Go.Proofs.YtekaoknpjpbjgaaDoor

/-! Words for slices of bytes; rows one behind the other (redoubtref01.Both). -/
namespace Go.Proofs.YtekaoknpjpbjgaaDoor
set_option linter.unusedVariables false
set_option linter.unusedSimpArgs false
open Go.RowKit

def bcell (b : UInt8) : Value := .int .u8 b.toNat
def bcells (l : List UInt8) : List Value := l.map bcell
theorem bcells_length (l : List UInt8) : (bcells l).length = l.length := by simp [bcells]
theorem bcells_append (l m : List UInt8) : bcells (l ++ m) = bcells l ++ bcells m := by simp [bcells]
theorem bcells_one (l : List UInt8) : ∀ u ∈ bcells l, u.oneCell' = true := fun u hu => by
  obtain ⟨b, _, rfl⟩ := List.mem_map.1 hu
  rfl
theorem bcells_get {l : List UInt8} {i : Nat} (h : i < l.length) : (bcells l)[i]? = some (.int .u8 (l[i].toNat : Int)) := by
  simp [bcells, bcell, h]

/-- v reads the bytes l, in a block of p. -/
def BAt (w : World) (p : Nat → Prop) (v : Value) (l : List UInt8) : Prop := SAt w p 1 v l.length (bcells l)
/-- v is the call's own, the bytes l. -/
def BOwn (w : World) (base : Nat) (v : Value) (l : List UInt8) : Prop := Own w base 5 1 v l.length (bcells l)

theorem BAt.keeps {w w' : World} {p : Nat → Prop} {v : Value} {l : List UInt8} {S : Nat → Prop} (h : BAt w p v l) (hk : Keeps S w w') (hS : ∀ b, p b → ¬ S b) : BAt w' p v l := SAt.keeps h hk hS
theorem BAt.mono {w : World} {p q : Nat → Prop} {v : Value} {l : List UInt8} (h : BAt w p v l) (hpq : ∀ b, p b → q b) : BAt w q v l := SAt.mono h hpq
theorem BAt.all {w : World} {p : Nat → Prop} {v : Value} {l : List UInt8} (h : BAt w p v l) : BAt w (fun _ => True) v l := h.mono fun _ _ => trivial
theorem BOwn.keeps {w w' : World} {base : Nat} {v : Value} {l : List UInt8} {S : Nat → Prop} (h : BOwn w base v l) (hk : Keeps S w w') (hS : ∀ b, v.ownBlock = some b → ¬ S b) : BOwn w' base v l := Own.keeps h hk hS
theorem BOwn.bat {w : World} {base : Nat} {v : Value} {l : List UInt8} (h : BOwn w base v l) : BAt w (fun b => v.ownBlock = some b) v l := Own.sat h
theorem BOwn.ge {w : World} {base : Nat} {v : Value} {l : List UInt8} (h : BOwn w base v l) : BAt w (fun b => base ≤ b) v l := h.bat.mono fun b hb => (Own.block h b hb).1
theorem BOwn.block {w : World} {base : Nat} {v : Value} {l : List UInt8} (h : BOwn w base v l) (b : Nat) (hb : v.ownBlock = some b) : base ≤ b ∧ b < w.heap.size := Own.block h b hb
theorem BOwn.mono {w : World} {base base' : Nat} {v : Value} {l : List UInt8} (h : BOwn w base v l) (hb : base' ≤ base) : BOwn w base' v l := Own.mono h hb
theorem BOwn.nil (w : World) (base : Nat) : BOwn w base (.slice none 0 0) [] := Own.nil w base _ 1
theorem BAt.nil (w : World) (p : Nat → Prop) : BAt w p (.slice none 0 0) [] := SAt.nil w p 1

/-- An element's address and what it holds. -/
theorem BAt.get {w : World} {p : Nat → Prop} {v : Value} {l : List UInt8} (h : BAt w p v l) (h0 : 0 < l.length) :
    ∃ b off c, v = .slice (some ⟨b, off, none⟩) l.length c ∧ l.length ≤ c ∧ c ≤ maxLen ∧ p b ∧ ∀ i (hi : i < l.length), w.cell? ⟨b, off + i, none⟩ = some (.int .u8 (l[i].toNat : Int)) := by
  obtain ⟨_, a, c, rfl, h3, h4, h5⟩ := h
  rcases h5 with h5 | ⟨b, off, hb, rfl, hc⟩
  · have h6 := bcells_length l
    rw [h5, List.length_nil] at h6
    omega
  · exact ⟨b, off, c, rfl, h3, h4, hb, fun i hi => hc i _ (bcells_get hi)⟩
theorem BAt.slice {w : World} {p : Nat → Prop} {v : Value} {l : List UInt8} (h : BAt w p v l) : ∃ a c, v = .slice a l.length c ∧ l.length ≤ c ∧ c ≤ maxLen := SAt.slice h

theorem info_u8 : (Tryd.prog.info? 5).map (fun i => (i.zero, i.size, i.bytes)) = some (some (.int .u8 0), 1, 1) := by kernel_rfl

/-- Bytes behind bytes. -/
theorem run_append_bytes {w : World} {base : Nat} {v x : Value} {l m : List UInt8} {p : Nat → Prop} {ty : TypeId} (hown : BOwn w base v l) (hx : BAt w p x m) (hmax : l.length + m.length ≤ 140737488355328) (hbase : base ≤ w.heap.size) :
    ∃ v' w', (Builtin.append_ #[25, 25] ty #[v, x]).run Tryd.prog w = .ok v' w' ∧ BOwn w' base v' (l ++ m) ∧ Keeps (fun b => v.ownBlock = some b) w w' ∧
      (v'.ownBlock = v.ownBlock ∨ ∃ b, v'.ownBlock = some b ∧ w.heap.size ≤ b) := by
  obtain ⟨i, hi, hz, hs, hb⟩ := info_parts info_u8
  obtain ⟨v', w', hr, ha⟩ := run_append (P := Tryd.prog) (ty := ty) (tx := 25) Tryd.underlying25 hi hz hs hb (by rfl) hown (SAt.src Tryd.underlying25 hx (bcells_one m) (by omega))
    (by simp only [maxLen]; omega) (by omega) hbase
  exact ⟨v', w', hr, by have := ha.own; rwa [← bcells_append, ← List.length_append] at this, ha.keeps, ha.place⟩

/-- A call's end: bytes of its own; nothing that was there has turned. -/
def Gives (l : List UInt8) (w : World) (e : Ending) (w' : World) : Prop := ∃ v, e = .returned v ∧ BOwn w' w.heap.size v l ∧ Keeps (fun _ => False) w w'

/-- v reads slices, each of which reads bytes. -/
def BBAt (w : World) (p q : Nat → Prop) (v : Value) (ls : List (List UInt8)) : Prop :=
  ∃ vs : List Value, vs.length = ls.length ∧ SAt w p 1 v vs.length vs ∧ ∀ (i : Nat) (x : Value) (l : List UInt8), vs[i]? = some x → ls[i]? = some l → BAt w q x l
theorem BBAt.keeps {w w' : World} {p q : Nat → Prop} {v : Value} {ls : List (List UInt8)} {S : Nat → Prop} (h : BBAt w p q v ls) (hk : Keeps S w w') (hS : ∀ b, p b → ¬ S b) (hS' : ∀ b, q b → ¬ S b) : BBAt w' p q v ls := by
  obtain ⟨vs, h1, h2, h3⟩ := h
  exact ⟨vs, h1, h2.keeps hk hS, fun i x l hx hl => (h3 i x l hx hl).keeps hk hS'⟩
theorem BBAt.get {w : World} {p q : Nat → Prop} {v : Value} {ls : List (List UInt8)} (h : BBAt w p q v ls) (h0 : 0 < ls.length) :
    ∃ b off c, v = .slice (some ⟨b, off, none⟩) ls.length c ∧ ls.length ≤ c ∧ c ≤ maxLen ∧ p b ∧ ∀ i (hi : i < ls.length), ∃ x, w.cell? ⟨b, off + i, none⟩ = some x ∧ BAt w q x ls[i] := by
  obtain ⟨vs, h1, ⟨_, a, c, rfl, h3, h4, h5⟩, h6⟩ := h
  rcases h5 with h5 | ⟨b, off, hb, rfl, hc⟩
  · rw [h5] at h1; simp at h1; omega
  · refine ⟨b, off, c, by rw [h1], by omega, h4, hb, fun i hi => ⟨vs[i]'(by omega), hc i _ (by simp), h6 i _ _ (by simp) (by simp)⟩⟩
theorem BBAt.slice {w : World} {p q : Nat → Prop} {v : Value} {ls : List (List UInt8)} (h : BBAt w p q v ls) : ∃ a c, v = .slice a ls.length c ∧ ls.length ≤ c ∧ c ≤ maxLen := by
  obtain ⟨vs, h1, ⟨_, a, c, h2, h3, h4, _⟩, _⟩ := h
  exact ⟨a, c, by rw [h2, h1], by omega, h4⟩

theorem flat_le (ls : List (List UInt8)) (k : Nat) : (ls.take k).flatten.length ≤ ls.flatten.length := by
  have h := congrArg (fun x => (List.flatten x).length) (List.take_append_drop k ls)
  simp only [List.flatten_append, List.length_append] at h
  omega

set_option maxRecDepth 100000 in
set_option maxHeartbeats 1000000 in
theorem both_any (v : Value) (ls : List (List UInt8)) (w : World) (h : BBAt w (· < w.heap.size) (· < w.heap.size) v ls) (hl : ls.flatten.length ≤ 140737488355328) :
    Calls Tryd.prog 10 #[v] w (Gives ls.flatten w) := by
  obtain ⟨a, c, rfl, hc, hm⟩ := h.slice
  simp only [maxLen] at hm
  go_enter Tryd.func10, Tryd.ntmps10
  go_wp2
  go_loopw [3, 4] (fun u3 u4 wr => ∃ k : Nat, k ≤ ls.length ∧ u4 = .int .i64 k ∧ BOwn wr w.heap.size u3 (ls.take k).flatten ∧ Keeps (fun _ => False) w wr) (fun _ u4 _ => ls.length - (intOf u4).toNat)
  case atStart => exact ⟨0, by omega, rfl, BOwn.nil _ _, Keeps.refl _ _⟩
  case round =>
    obtain ⟨k, hk, rfl, ho, hkw⟩ := hrel
    by_cases hlt : k < ls.length
    · obtain ⟨b, off, c', he, -, -, hb, hcell⟩ := h.get (by omega)
      obtain ⟨rfl, -, rfl⟩ : a = some ⟨b, off, none⟩ ∧ True ∧ c = c' := by
        simp only [Value.slice.injEq] at he
        exact ⟨he.1, trivial, he.2.2⟩
      obtain ⟨x, hx, hbx⟩ := hcell k hlt
      have hx' := hkw.cell hx (fun h => h)
      have hle := flat_le ls (k + 1)
      rw [List.take_succ_eq_append_getElem hlt, List.flatten_append, List.length_append] at hle
      obtain ⟨v', w', hrun, ho', hk', -⟩ := run_append_bytes (ty := 25) ho (hbx.keeps hkw (fun _ _ h => h)) (by simpa using Nat.le_trans hle hl) hkw.size
      have HR := Lib.hid hrun
      clear hrun hcell he hle hx
      go_wp2_with (at_builtin; refine Lib.wpList_append_run _ rfl _ _ _ _ rfl _ _ rfl rfl _ _ HR.out ?_)
      go_roundw
      case rel => exact ⟨k + 1, by omega, by go_num, by rw [List.take_succ_eq_append_getElem hlt, List.flatten_append]; simpa using ho', hkw.from hk' fun i hi => (ho.block i hi).1⟩
      case measure => simp [intOf]; omega
    · obtain rfl : k = ls.length := by omega
      go_wp2
      go_ret
      exact ⟨_, rfl, by simpa using ho, hkw⟩

end Go.Proofs.YtekaoknpjpbjgaaDoor

/-! mac.Same: it tells whether two rows of bytes are the same. -/
namespace Go.Proofs.YtekaoknpjpbjgaaDoor
set_option linter.unusedVariables false
set_option linter.unusedSimpArgs false
open Go.RowKit

theorem u8_lt (a : UInt8) : a.toNat < 256 := a.toNat_lt
theorem or_zero_nat {a b : Nat} : a ||| b = 0 ↔ a = 0 ∧ b = 0 := Nat.or_eq_zero_iff
theorem same_step (l m : List UInt8) (k : Nat) (n : Nat) (hl : k < l.length) (hm : k < m.length) (h : n = 0 ↔ l.take k = m.take k) :
    (n ||| (l[k].toNat ^^^ m[k].toNat) = 0 ↔ l.take (k + 1) = m.take (k + 1)) := by
  rw [or_zero_nat, h, List.take_succ_eq_append_getElem hl, List.take_succ_eq_append_getElem hm]
  have hx : (l[k].toNat ^^^ m[k].toNat = 0) ↔ l[k] = m[k] := by
    constructor
    · intro h
      refine UInt8.toNat_inj.1 (Nat.eq_of_testBit_eq fun i => ?_)
      have := congrArg (fun x => Nat.testBit x i) h
      simpa using this
    · intro h; rw [h, Nat.xor_self]
  rw [hx]
  constructor
  · rintro ⟨h1, h2⟩; rw [h1, h2]
  · intro h
    obtain ⟨h1, h2⟩ := List.append_inj' h rfl
    exact ⟨h1, by simpa using h2⟩

set_option maxRecDepth 100000 in
set_option maxHeartbeats 1000000 in
theorem same_any (va vb : Value) (l m : List UInt8) (w : World) (p q : Nat → Prop) (ha : BAt w p va l) (hb : BAt w q vb m) :
    Calls Tryd.prog 21 #[va, vb] w fun e w' => e = .returned (.bool (decide (l = m))) ∧ w = w' := by
  obtain ⟨a, c, rfl, hc, hcm⟩ := ha.slice
  obtain ⟨a', c', rfl, hc', hcm'⟩ := hb.slice
  simp only [maxLen] at hcm hcm'
  by_cases hlen : l.length = m.length
  · have hne : ((l.length : Int) != (m.length : Int)) = false := by rw [bne_eq_false_iff_eq]; omega
    have HL := Lib.hid hlen
    go_enter Tryd.func21, Tryd.ntmps21
    clear hlen
    go_wp2
    go_loop [5, 15] (fun u5 u15 => ∃ k n : Nat, k ≤ l.length ∧ u15 = .int .i64 k ∧ u5 = .int .u8 n ∧ n < 256 ∧ (n = 0 ↔ l.take k = m.take k)) (fun _ u15 => l.length - (intOf u15).toNat)
    case atStart => exact ⟨0, 0, by omega, rfl, rfl, by omega, by simp⟩
    case round =>
      obtain ⟨k, n, hk, rfl, rfl, hn, hz⟩ := hrel
      by_cases hlt : k < l.length
      · have hlt' : k < m.length := by have := HL.out; omega
        obtain ⟨b, off, c1, e1, -, -, -, h1⟩ := ha.get (by omega)
        obtain ⟨b', off', c2, e2, -, -, -, h2⟩ := hb.get (by omega)
        simp only [Value.slice.injEq] at e1 e2
        obtain ⟨rfl, -, rfl⟩ := e1
        obtain ⟨rfl, -, rfl⟩ := e2
        have g1 := h1 k hlt
        have g2 := h2 k hlt'
        have hs := Lib.hid (same_step l m k n hlt hlt' hz)
        have HZ := Lib.hid hz
        have hx : l[k].toNat ^^^ m[k].toNat < 256 := Nat.xor_lt_two_pow (n := 8) (u8_lt _) (u8_lt _)
        have ho : n ||| (l[k].toNat ^^^ m[k].toNat) < 256 := Nat.or_lt_two_pow (n := 8) hn hx
        have X := Lib.hid (u8_xor_nat l[k].toNat m[k].toNat (u8_lt _) (u8_lt _))
        have O := Lib.hid (u8_or_nat n (l[k].toNat ^^^ m[k].toNat) hn hx)
        clear h1 h2 hz
        go_wp2
        go_round
        case rel => exact ⟨k + 1, _, by omega, by go_num, by rw [X.out, O.out], ho, hs.out⟩
        case measure => simp [intOf]; omega
      · obtain rfl : k = l.length := by omega
        have hz' : n = 0 ↔ l = m := by
          rw [hz, List.take_length]
          have := HL.out
          rw [List.take_of_length_le (by omega : m.length ≤ l.length)]
        clear hz
        have HZ := Lib.hid hz'
        clear hz'
        go_wp2
        go_ret
        refine ⟨ret_bool ?_, rfl⟩
        rw [Bool.eq_iff_iff]
        simp only [beq_iff_eq, decide_eq_true_eq]
        rw [← HZ.out]
        omega
  · have hne : ((l.length : Int) != (m.length : Int)) = true := by rw [bne_iff_ne]; omega
    have hf : decide (l = m) = false := decide_eq_false fun h => hlen (by rw [h])
    rw [hf]
    clear hlen hf
    go_enter Tryd.func21, Tryd.ntmps21
    go_wp2
    go_ret
    exact ⟨rfl, rfl⟩

end Go.Proofs.YtekaoknpjpbjgaaDoor
