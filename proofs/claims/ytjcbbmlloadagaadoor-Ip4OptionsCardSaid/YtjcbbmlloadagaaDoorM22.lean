/- Words, walks and plain laws that the claim leans on, part 22. -/
import Derived.Test.YtjcbbmlloadagaaDoorM19
import Derived.IntWalk

/-! The law Ip4Options. -/
namespace Go.Proofs.YtjcbbmlloadagaaDoor
set_option linter.unusedVariables false
set_option linter.unusedSimpArgs false
open Go.RowKit Go.Proofs.YtjcbbmlloadagaaDoor.PQ

/-- How one is laid down. -/
def encO (x : S41) : List UInt8 := if x.f0 = 1 then [1] else [UInt8.ofNat x.f0.toNat, UInt8.ofNat (x.f1.data.toList.length + 2)] ++ x.f1.data.toList
def goodO (x : S41) : Bool := decide (1 ≤ x.f0) && decide (x.f0 ≤ 255) && decide (x.f1.data.toList.length ≤ 253) && !(decide (x.f0 = 1) && !decide (x.f1.data.toList = []))
def encA (L : List S41) : List UInt8 := (L.map encO).flatten
theorem encO_len (x : S41) (h : goodO x = true) : 1 ≤ (encO x).length ∧ (encO x).length ≤ 255 := by
  unfold goodO at h
  simp only [Bool.and_eq_true, decide_eq_true_eq] at h
  unfold encO
  split
  · simp
  · simp only [List.length_append, List.length_cons, List.length_nil]; omega
theorem encA_len (L : List S41) (h : ∀ x ∈ L, goodO x = true) : (encA L).length ≤ 255 * L.length := by
  induction L with
  | nil => simp [encA]
  | cons x r ih =>
    have h1 := (encO_len x (h x List.mem_cons_self)).2
    have h2 := ih fun y hy => h y (List.mem_cons_of_mem _ hy)
    unfold encA at *
    simp only [List.map_cons, List.flatten_cons, List.length_append, List.length_cons]
    omega
theorem opts_enc : ∀ (L : List S41) (R : List UInt8) (n : Nat), (∀ x ∈ L, goodO x = true) → (R = [] ∨ byF R 0 = 0) → (encA L ++ R).length ≤ n → optS n (encA L ++ R) = some L := by
  intro L
  induction L with
  | nil =>
    intro R n _ hR hn
    have e : encA [] ++ R = R := by simp [encA]
    rw [e] at hn ⊢
    cases n with
    | zero => rfl
    | succ n =>
      unfold optS
      rw [if_pos]
      rcases hR with rfl | h
      · exact .inl rfl
      · exact .inr h
  | cons x L ih =>
    intro R n hL hR hn
    have hx := hL x List.mem_cons_self
    have hr := fun y hy => hL y (List.mem_cons_of_mem x hy)
    have hxl := encO_len x hx
    obtain ⟨S, hS⟩ : ∃ S, encA L ++ R = S := ⟨_, rfl⟩
    have e : encA (x :: L) ++ R = encO x ++ S := by rw [← hS]; simp [encA]
    rw [e] at hn ⊢
    rw [List.length_append] at hn
    obtain ⟨n, rfl⟩ : ∃ m, n = m + 1 := ⟨n - 1, by omega⟩
    have hS2 := ih R n hr hR (by rw [hS]; omega)
    rw [hS] at hS2
    obtain ⟨k, ⟨d⟩⟩ := x
    unfold goodO at hx
    simp only [Bool.and_eq_true, decide_eq_true_eq, Bool.not_eq_true', Bool.and_eq_false_iff, decide_eq_false_iff_not, Bool.not_eq_false'] at hx
    obtain ⟨⟨⟨g1, g2⟩, g3⟩, g4⟩ := hx
    by_cases h1 : k = 1
    · have hd : d.toList = [] := by
        rcases g4 with g | g
        · exact absurd h1 g
        · exact g
      have hd' : d = #[] := by cases d; simp at hd; rw [hd]
      subst h1 hd'
      have eo : encO ⟨1, ⟨#[]⟩⟩ = [1] := rfl
      rw [eo]
      show optS (n + 1) (1 :: S) = _
      unfold optS
      rw [if_neg (by simp [byF]), if_pos (by simp [byF])]
      show (optS n S).map _ = _
      rw [hS2]; rfl
    · have eo : encO ⟨k, ⟨d⟩⟩ = UInt8.ofNat k.toNat :: UInt8.ofNat (d.toList.length + 2) :: d.toList := by
        unfold encO
        simp only
        rw [if_neg h1]; rfl
      rw [eo]
      have b0 : byF (UInt8.ofNat k.toNat :: UInt8.ofNat (d.toList.length + 2) :: d.toList ++ S) 0 = k.toNat := by
        show (UInt8.ofNat k.toNat).toNat = _
        rw [UInt8.toNat_ofNat']; omega
      have b1 : byF (UInt8.ofNat k.toNat :: UInt8.ofNat (d.toList.length + 2) :: d.toList ++ S) 1 = d.toList.length + 2 := by
        show (UInt8.ofNat (d.toList.length + 2)).toNat = _
        rw [UInt8.toNat_ofNat']; omega
      have hlen : (UInt8.ofNat k.toNat :: UInt8.ofNat (d.toList.length + 2) :: d.toList ++ S).length = d.toList.length + 2 + S.length := by simp; omega
      unfold optS
      rw [b0, b1, hlen]
      clear b0 b1 hlen hxl hn
      rw [if_neg (show ¬ (d.toList.length + 2 + S.length = 0 ∨ k.toNat = 0) by omega), if_neg (show ¬ k.toNat = 1 by omega), if_neg (show ¬ (d.toList.length + 2 + S.length < 2 ∨ d.toList.length + 2 < 2 ∨ d.toList.length + 2 + S.length < d.toList.length + 2) by omega)]
      have e1 : (UInt8.ofNat k.toNat :: UInt8.ofNat (d.toList.length + 2) :: d.toList ++ S).drop (d.toList.length + 2) = S := by
        show (d.toList ++ S).drop d.toList.length = S
        simp
      have e2 : ((UInt8.ofNat k.toNat :: UInt8.ofNat (d.toList.length + 2) :: d.toList ++ S).drop 2).take (d.toList.length + 2 - 2) = d.toList := by
        show (d.toList ++ S).take (d.toList.length + 2 - 2) = d.toList
        rw [Nat.add_sub_cancel]; simp
      rw [e1, e2, hS2]
      have ek : ((k.toNat : Nat) : Int) = k := by omega
      rw [ek]
      rfl
theorem optF_enc (L : List S41) (R : List UInt8) (hL : ∀ x ∈ L, goodO x = true) (hR : R = [] ∨ byF R 0 = 0) : optF (encA L ++ R) = (L, 0) := by
  unfold optF
  rw [opts_enc L R _ hL hR (Nat.le_refl _)]
end Go.Proofs.YtjcbbmlloadagaaDoor

/-! The law Ip4Options: the walk. -/
namespace Go.Proofs.YtjcbbmlloadagaaDoor
set_option linter.unusedVariables false
set_option linter.unusedSimpArgs false
open Go.RowKit Go.Proofs.YtjcbbmlloadagaaDoor.PQ

theorem XRd.cells {w : World} {v : Value} {L : List S41} (h : XRd w v L) (h0 : 0 < L.length) :
    ∃ b off c, v = .slice (some ⟨b, off, none⟩) L.length c ∧ L.length ≤ c ∧ ∀ (i : Nat) (hi : i < L.length), w.cell? ⟨b, off + i * 2, none⟩ = some (.int .i64 L[i].f0) ∧ w.cell? ⟨b, off + i * 2 + 1, none⟩ = some (.string L[i].f1) := by
  obtain ⟨A, c, rfl, h1, h2⟩ := h
  obtain ⟨ad, rfl, hc⟩ := h2.2.2 h0
  have hsz : Go.Proofs.YtjcbbmlloadagaaDoor.PQ.k41.sz = 2 := rfl
  have at2 : ∀ (i : Nat) (hi : i < L.length), w.cell? (ad.add (i * 2 + 0)) = some (.int .i64 L[i].f0) ∧ w.cell? (ad.add (i * 2 + 1)) = some (.string L[i].f1) := fun i hi => by
    obtain ⟨cs, hl, hk, hu⟩ := hc i L[i] (List.getElem?_eq_getElem hi)
    have e := Go.Proofs.YtjcbbmlloadagaaDoor.PQ.k41_open hk
    subst e
    rw [hsz] at hu
    exact ⟨hu 0 _ rfl, hu 1 _ rfl⟩
  obtain ⟨b, off, spot⟩ := ad
  have hspot : spot = none := by
    cases spot with
    | none => rfl
    | some s =>
      have h00 := (at2 0 h0).1
      simp only [Addr.add, Nat.zero_mul, Nat.zero_add, if_true] at h00
      unfold World.cell? at h00
      split at h00
      · simp at h00
      · cases h00
  subst hspot
  refine ⟨b, off, c, rfl, h1, fun i hi => ?_⟩
  have := at2 i hi
  rw [addr_add, addr_add] at this
  exact this

theorem good_of (k : Int) (m : List UInt8) (h1 : 1 ≤ k) (h2 : k ≤ 255) (h3 : m.length ≤ 253) (h4 : k = 1 → m = []) : goodO ⟨k, ⟨m.toArray⟩⟩ = true := by
  unfold goodO
  simp
  refine ⟨⟨⟨h1, h2⟩, h3⟩, ?_⟩
  by_cases hk : k = 1
  · exact .inr (h4 hk)
  · exact .inl hk
theorem encA_take (L : List S41) (i : Nat) (h : i < L.length) : encA (L.take (i + 1)) = encA (L.take i) ++ encO L[i] := by
  unfold encA
  rw [List.take_succ_eq_append_getElem h, List.map_append, List.flatten_append]
  simp

set_option maxRecDepth 100000 in
set_option maxHeartbeats 4000000 in
theorem lopts_any (v : Value) (L : List S41) (R : List UInt8) (w : World) (h : XRd w v L) (hm : L.length ≤ 9223372036854775807) (hR : R.length ≤ 9223372036854775807) (hg : ErrT w) :
    Calls Tryd.prog 5 #[v, .string ⟨R.toArray⟩] w fun e w' => e = .returned (.bool true) ∧ Keeps (fun _ => False) w w' := by
  have hx := h
  obtain ⟨A, c, rfl, hc, -⟩ := h
  by_cases h1 : 30 < L.length
  · have h1' : (30 : Int) < (L.length : Int) := by omega
    go_enter Tryd.func5, Tryd.ntmps5
    go_wp2
    go_ret
    exact ⟨rfl, Keeps.refl _ _⟩
  · have h1' : (L.length : Int) ≤ 30 := by omega
    by_cases h2 : 300 < R.length
    · have h2' : (300 : Int) < (R.length : Int) := by omega
      go_enter Tryd.func5, Tryd.ntmps5
      go_wp2
      go_ret
      exact ⟨rfl, Keeps.refl _ _⟩
    · have h2' : (R.length : Int) ≤ 300 := by omega
      go_enter Tryd.func5, Tryd.ntmps5
      go_wp2
      go_loopw [5, 6] (fun u5 u6 wr => ∃ (i : Nat) (S : List UInt8), i ≤ L.length ∧ u6 = .int .i64 i ∧ u5 = .string ⟨S.toArray⟩ ∧ encA (L.take i) = S ∧ (∀ x ∈ L.take i, goodO x = true) ∧ Keeps (fun _ => False) w wr) (fun _ u6 _ => L.length - (intOf u6).toNat)
      case atStart => exact ⟨0, [], Nat.zero_le _, rfl, rfl, rfl, fun x hx => by simp at hx, Keeps.refl _ _⟩
      case round =>
        obtain ⟨i, S, hi, rfl, rfl, hS, hgood, hkw⟩ := hrel
        have hSl : S.length ≤ 255 * 30 := by
          rw [← hS]
          refine Nat.le_trans (encA_len _ hgood) ?_
          rw [List.length_take]; omega
        by_cases hlt : i < L.length
        · obtain ⟨b, off, c', e, -, hcell⟩ := hx.cells (by omega)
          simp only [Value.slice.injEq] at e
          obtain ⟨rfl, -, rfl⟩ := e
          have k1 := hkw.cell (hcell i hlt).1 (fun h => h)
          have k2 := hkw.cell (hcell i hlt).2 (fun h => h)
          obtain ⟨K, hK⟩ : ∃ K, L[i].f0 = K := ⟨_, rfl⟩
          obtain ⟨m, hM⟩ : ∃ m : List UInt8, L[i].f1 = ⟨m.toArray⟩ := ⟨L[i].f1.data.toList, by cases L[i].f1; simp⟩
          have hLi : L[i] = ⟨K, ⟨m.toArray⟩⟩ := by cases hq : L[i]; rw [hq] at hK hM; simp only at hK hM; rw [hK, hM]
          rw [hK] at k1
          rw [hM] at k2
          have hlt' : (i : Int) < (L.length : Int) := by omega
          have hi0 : (0 : Int) ≤ (i : Int) := by omega
          have HS := Lib.hid hS
          have HLI := Lib.hid hLi
          have HM := Lib.hid hM
          clear hcell hK hM hS hLi
          by_cases c1 : K < 1
          · go_wp2
            go_ret
            exact ⟨rfl, hkw⟩
          · have c1' : 1 ≤ K := by omega
            by_cases c2 : 255 < K
            · go_wp2
              go_ret
              exact ⟨rfl, hkw⟩
            · have c2' : K ≤ 255 := by omega
              by_cases c3 : (253 : Int) < (m.length : Int)
              · go_wp2
                go_ret
                exact ⟨rfl, hkw⟩
              · have c3' : (m.length : Int) ≤ 253 := by omega
                by_cases c4 : K = 1
                · subst c4
                  by_cases c5 : m = []
                  · subst c5
                    have ea := ba_append S [1]
                    obtain ⟨S', hS'⟩ : ∃ S', S ++ [1] = S' := ⟨_, rfl⟩
                    rw [hS'] at ea
                    have ea' : (ByteArray.mk S.toArray) ++ (ByteArray.mk #[1]) = ⟨S'.toArray⟩ := ea
                    have hSi : (S.length : Int) ≤ 7650 := by omega
                    have HS' := Lib.hid hS'
                    have hgo : goodO ⟨1, ⟨#[]⟩⟩ = true := by rfl
                    clear c1 c1' c2 c2' c3 c3' hS' ea
                    go_wp2
                    go_roundw
                    case rel =>
                      refine ⟨i + 1, S', by omega, by go_num, rfl, ?_, fun x hx => ?_, hkw⟩
                      · rw [encA_take L i hlt, HS.out, HLI.out, ← HS'.out]; rfl
                      · rw [List.take_succ_eq_append_getElem hlt] at hx
                        rcases List.mem_append.1 hx with hx | hx
                        · exact hgood x hx
                        · rw [List.mem_singleton] at hx
                          rw [hx, HLI.out]; exact hgo
                    case measure => simp [intOf]; omega
                  · clear c1 c1' c2 c2' c3
                    have c5' : m.isEmpty = false := by cases m with | nil => exact absurd rfl c5 | cons _ _ => rfl
                    go_wp2
                    go_ret
                    exact ⟨rfl, hkw⟩
                · have hmn : m.length ≤ 253 := by omega
                  obtain ⟨X, hX⟩ : ∃ X, UInt8.ofNat K.toNat = X := ⟨_, rfl⟩
                  obtain ⟨Y, hY⟩ : ∃ X, UInt8.ofNat (m.length + 2) = X := ⟨_, rfl⟩
                  have qX : K % 256 = (X.toNat : Int) := by rw [← hX, UInt8.toNat_ofNat']; omega
                  have qY : ((m.length : Int) + 2) % 256 = (Y.toNat : Int) := by rw [← hY, UInt8.toNat_ofNat']; omega
                  have q1 := i64_fit ((m.length : Int) + 2) (by omega) (by omega)
                  have q2 : IntKind.u8.wrap ((m.length : Int) + 2) = (Y.toNat : Int) := by rw [IntKind.wrap_u8]; exact qY
                  have q3 : IntKind.u8.wrap K = (X.toNat : Int) := by rw [IntKind.wrap_u8]; exact qX
                  have ea := ba_append S [X, Y]
                  obtain ⟨S', hS'⟩ : ∃ S', S ++ [X, Y] = S' := ⟨_, rfl⟩
                  rw [hS'] at ea
                  have eb := ba_append S' m
                  obtain ⟨S2, hS2⟩ : ∃ S2, S' ++ m = S2 := ⟨_, rfl⟩
                  rw [hS2] at eb
                  have hSi : (S.length : Int) ≤ 7650 := by omega
                  have hSi' : (S'.length : Int) ≤ 7700 := by rw [← hS']; simp; omega
                  have HS2 : Hid (S ++ ([X, Y] ++ m) = S2) := Lib.hid (by rw [← hS2, ← hS', List.append_assoc])
                  have HX := Lib.hid hX
                  have HY := Lib.hid hY
                  have hgo := good_of K m c1' c2' hmn (fun h => absurd h c4)
                  have HC4 := Lib.hid c4
                  have c4' : (K == 1) = false := beq_eq_false_iff_ne.2 c4
                  clear hS' hS2 hX hY
                  go_wp2
                  refine region_T [] (fun _ => True) (by kernel_rfl) ?_
                  have hC : (fun _ : World => True) wr.drew := trivial
                  have hkA := hkw.drew
                  refine anyT_take0 (i := 0) (v := ?_) rfl (by kernel_rfl) (by kernel_rfl) (by kernel_rfl) (by kernel_rfl) (by kernel_rfl) (fun _ _ _ h => h) hC (.inl ⟨by rfl, fun _ _ => ?_⟩) ?_
                  rotate_left 1
                  · go_simp
                    try with_reducible rfl
                  simp only [Act.put, List.getElem_toArray, List.getElem_cons_succ, List.getElem_cons_zero, List.setIfInBounds_toArray, List.set_cons_zero, List.set_cons_succ]
                  refine anyT_take0 (i := 1) (v := ?_) rfl (by kernel_rfl) (by kernel_rfl) (by kernel_rfl) (by kernel_rfl) (by kernel_rfl) (fun _ _ _ h => h) hC (.inl ⟨by rfl, fun _ _ => ?_⟩) ?_
                  rotate_left 1
                  · go_simp
                    try with_reducible rfl
                  simp only [Act.put, List.getElem_toArray, List.getElem_cons_succ, List.getElem_cons_zero, List.setIfInBounds_toArray, List.set_cons_zero, List.set_cons_succ]
                  refine anyT_take0 (i := 2) (v := ?_) rfl (by kernel_rfl) (by kernel_rfl) (by kernel_rfl) (by kernel_rfl) (by kernel_rfl) (fun _ _ _ h => h) hC (.inl ⟨by rfl, fun _ _ => ?_⟩) ?_
                  rotate_left 1
                  · go_simp
                    try with_reducible rfl
                  simp only [Act.put, List.getElem_toArray, List.getElem_cons_succ, List.getElem_cons_zero, List.setIfInBounds_toArray, List.set_cons_zero, List.set_cons_succ]
                  refine anyT_take0 (i := 3) (v := ?_) rfl (by kernel_rfl) (by kernel_rfl) (by kernel_rfl) (by kernel_rfl) (by kernel_rfl) (fun _ _ _ h => h) hC (.inl ⟨by rfl, fun _ _ => ?_⟩) ?_
                  rotate_left 1
                  · go_simp
                    try with_reducible rfl
                  simp only [Act.put, List.getElem_toArray, List.getElem_cons_succ, List.getElem_cons_zero, List.setIfInBounds_toArray, List.set_cons_zero, List.set_cons_succ]
                  refine anyT_take0 (i := 4) (v := ?_) rfl (by kernel_rfl) (by kernel_rfl) (by kernel_rfl) (by kernel_rfl) (by kernel_rfl) (fun _ _ _ h => h) hC (.inl ⟨by rfl, fun _ _ => ?_⟩) ?_
                  rotate_left 1
                  · go_simp
                    try with_reducible rfl
                  simp only [Act.put, List.getElem_toArray, List.getElem_cons_succ, List.getElem_cons_zero, List.setIfInBounds_toArray, List.set_cons_zero, List.set_cons_succ]
                  refine anyT_take0 (i := 7) (v := ?_) rfl (by kernel_rfl) (by kernel_rfl) (by kernel_rfl) (by kernel_rfl) (by kernel_rfl) (fun _ _ _ h => h) hC (.inl ⟨by rfl, fun _ _ => ?_⟩) ?_
                  rotate_left 1
                  · go_simp
                    try with_reducible rfl
                  simp only [Act.put, List.getElem_toArray, List.getElem_cons_succ, List.getElem_cons_zero, List.setIfInBounds_toArray, List.set_cons_zero, List.set_cons_succ]
                  refine anyT_take0 (i := 8) (v := ?_) rfl (by kernel_rfl) (by kernel_rfl) (by kernel_rfl) (by kernel_rfl) (by kernel_rfl) (fun _ _ _ h => h) hC (.inl ⟨by rfl, fun _ _ => ?_⟩) ?_
                  rotate_left 1
                  · go_simp
                    try with_reducible rfl
                  simp only [Act.put, List.getElem_toArray, List.getElem_cons_succ, List.getElem_cons_zero, List.setIfInBounds_toArray, List.set_cons_zero, List.set_cons_succ]
                  refine anyT_take0 (i := 9) (v := ?_) rfl (by kernel_rfl) (by kernel_rfl) (by kernel_rfl) (by kernel_rfl) (by kernel_rfl) (fun _ _ _ h => h) hC (.inl ⟨by rfl, fun _ _ => ?_⟩) ?_
                  rotate_left 1
                  · go_simp
                    try with_reducible rfl
                  simp only [Act.put, List.getElem_toArray, List.getElem_cons_succ, List.getElem_cons_zero, List.setIfInBounds_toArray, List.set_cons_zero, List.set_cons_succ]
                  refine anyT_take0 (i := 10) (v := ?_) rfl (by kernel_rfl) (by kernel_rfl) (by kernel_rfl) (by kernel_rfl) (by kernel_rfl) (fun _ _ _ h => h) hC (.inl ⟨by rfl, fun _ _ => ?_⟩) ?_
                  rotate_left 1
                  · go_simp
                    try with_reducible rfl
                  simp only [Act.put, List.getElem_toArray, List.getElem_cons_succ, List.getElem_cons_zero, List.setIfInBounds_toArray, List.set_cons_zero, List.set_cons_succ]
                  refine anyT_take0 (i := 18) (v := ?_) rfl (by kernel_rfl) (by kernel_rfl) (by kernel_rfl) (by kernel_rfl) (by kernel_rfl) (fun _ _ _ h => h) hC (.inl ⟨by rfl, fun _ _ => ?_⟩) ?_
                  rotate_left 1
                  · go_simp
                    try with_reducible rfl
                  simp only [Act.put, List.getElem_toArray, List.getElem_cons_succ, List.getElem_cons_zero, List.setIfInBounds_toArray, List.set_cons_zero, List.set_cons_succ]
                  refine anyT_take0 (i := 19) (v := ?_) rfl (by kernel_rfl) (by kernel_rfl) (by kernel_rfl) (by kernel_rfl) (by kernel_rfl) (fun _ _ _ h => h) hC (.inl ⟨by rfl, fun _ _ => ?_⟩) ?_
                  rotate_left 1
                  · go_simp
                    try with_reducible rfl
                  simp only [Act.put, List.getElem_toArray, List.getElem_cons_succ, List.getElem_cons_zero, List.setIfInBounds_toArray, List.set_cons_zero, List.set_cons_succ]
                  refine anyT_take0 (i := 20) (v := ?_) rfl (by kernel_rfl) (by kernel_rfl) (by kernel_rfl) (by kernel_rfl) (by kernel_rfl) (fun _ _ _ h => h) hC (.inl ⟨by rfl, fun _ _ => ?_⟩) ?_
                  rotate_left 1
                  · go_simp
                    try with_reducible rfl
                  simp only [Act.put, List.getElem_toArray, List.getElem_cons_succ, List.getElem_cons_zero, List.setIfInBounds_toArray, List.set_cons_zero, List.set_cons_succ]
                  refine anyT_take0 (i := 21) (v := ?_) rfl (by kernel_rfl) (by kernel_rfl) (by kernel_rfl) (by kernel_rfl) (by kernel_rfl) (fun _ _ _ h => h) hC (.inl ⟨by rfl, fun _ _ => ?_⟩) ?_
                  rotate_left 1
                  · go_simp
                    try with_reducible rfl
                  simp only [Act.put, List.getElem_toArray, List.getElem_cons_succ, List.getElem_cons_zero, List.setIfInBounds_toArray, List.set_cons_zero, List.set_cons_succ]
                  refine anyT_par [(5, rEq (.int .i64 K)), (6, rEq (.int .u8 (X.toNat : Int))), (11, rEq (.string ⟨m.toArray⟩)), (12, rEq (.int .i64 (m.length : Int))), (13, rEq (.int .i64 ((m.length : Int) + 2))), (14, rEq (.int .u8 (Y.toNat : Int))), (15, rBytes [X, Y]), (16, rEq (.string ⟨[X, Y].toArray⟩)), (17, rEq (.string ⟨S'.toArray⟩)), (22, rEq (.string ⟨m.toArray⟩)), (23, rEq (.string ⟨S2.toArray⟩)), (24, rEq (.string ⟨S2.toArray⟩))] _ [5, 6, 11, 12, 13, 14, 15, 16, 17, 22, 23, 24] (fun _ => trivial) (by kernel_rfl) rfl (by kernel_rfl) rfl ?_
                  refine ⟨_, rfl, fun w2 hk2 hK => ?_, fun u5 => ?_⟩
                  rotate_left 1
                  simp only [dstOf, Act.put, List.getElem?_toArray, List.getElem?_cons_succ, List.getElem?_cons_zero, Option.bind_some, List.setIfInBounds_toArray, List.set_cons_zero, List.set_cons_succ, List.nil_append, List.cons_append]
                  rotate_left 1
                  · have kk := (Keeps.drew (Keeps.refl (fun _ => False) wr)).trans hk2 (fun _ _ h => h)
                    have k3 := kk.cell k1 (fun h => h)
                    go_wp2
                    exact ⟨_, rfl, rfl, Keeps.refl _ _⟩
                  refine ⟨_, rfl, fun w2 hk2 hK => ?_, fun u6 => ?_⟩
                  rotate_left 1
                  simp only [dstOf, Act.put, List.getElem?_toArray, List.getElem?_cons_succ, List.getElem?_cons_zero, Option.bind_some, List.setIfInBounds_toArray, List.set_cons_zero, List.set_cons_succ, List.nil_append, List.cons_append]
                  rotate_left 1
                  · obtain rfl : u5 = .int .i64 K := hK (5, u5) (by simp) (by kernel_rfl)
                    go_wp2
                    exact ⟨_, rfl, rfl, Keeps.refl _ _⟩
                  refine ⟨_, rfl, fun w2 hk2 hK => ?_, fun u11 => ?_⟩
                  rotate_left 1
                  simp only [dstOf, Act.put, List.getElem?_toArray, List.getElem?_cons_succ, List.getElem?_cons_zero, Option.bind_some, List.setIfInBounds_toArray, List.set_cons_zero, List.set_cons_succ, List.nil_append, List.cons_append]
                  rotate_left 1
                  · have kk := (Keeps.drew (Keeps.refl (fun _ => False) wr)).trans hk2 (fun _ _ h => h)
                    have k3 := kk.cell k2 (fun h => h)
                    go_wp2
                    exact ⟨_, rfl, rfl, Keeps.refl _ _⟩
                  refine ⟨_, rfl, fun w2 hk2 hK => ?_, fun u12 => ?_⟩
                  rotate_left 1
                  simp only [dstOf, Act.put, List.getElem?_toArray, List.getElem?_cons_succ, List.getElem?_cons_zero, Option.bind_some, List.setIfInBounds_toArray, List.set_cons_zero, List.set_cons_succ, List.nil_append, List.cons_append]
                  rotate_left 1
                  · obtain rfl : u11 = .string ⟨m.toArray⟩ := hK (11, u11) (by simp) (by kernel_rfl)
                    go_wp2
                    exact ⟨_, rfl, rfl, Keeps.refl _ _⟩
                  refine ⟨_, rfl, fun w2 hk2 hK => ?_, fun u13 => ?_⟩
                  rotate_left 1
                  simp only [dstOf, Act.put, List.getElem?_toArray, List.getElem?_cons_succ, List.getElem?_cons_zero, Option.bind_some, List.setIfInBounds_toArray, List.set_cons_zero, List.set_cons_succ, List.nil_append, List.cons_append]
                  rotate_left 1
                  · obtain rfl : u12 = .int .i64 (m.length : Int) := hK (12, u12) (by simp) (by kernel_rfl)
                    go_wp2
                    exact ⟨_, rfl, rfl, Keeps.refl _ _⟩
                  refine ⟨_, rfl, fun w2 hk2 hK => ?_, fun u14 => ?_⟩
                  rotate_left 1
                  simp only [dstOf, Act.put, List.getElem?_toArray, List.getElem?_cons_succ, List.getElem?_cons_zero, Option.bind_some, List.setIfInBounds_toArray, List.set_cons_zero, List.set_cons_succ, List.nil_append, List.cons_append]
                  rotate_left 1
                  · obtain rfl : u13 = .int .i64 ((m.length : Int) + 2) := hK (13, u13) (by simp) (by kernel_rfl)
                    go_wp2
                    exact ⟨_, rfl, rfl, Keeps.refl _ _⟩
                  refine ⟨_, rfl, fun w2 hk2 hK => ?_, fun u15 => ?_⟩
                  rotate_left 1
                  simp only [dstOf, Act.put, List.getElem?_toArray, List.getElem?_cons_succ, List.getElem?_cons_zero, Option.bind_some, List.setIfInBounds_toArray, List.set_cons_zero, List.set_cons_succ, List.nil_append, List.cons_append]
                  rotate_left 1
                  · obtain rfl : u6 = .int .u8 (X.toNat : Int) := hK (6, u6) (by simp) (by kernel_rfl)
                    obtain rfl : u14 = .int .u8 (Y.toNat : Int) := hK (14, u14) (by simp) (by kernel_rfl)
                    go_wp2
                    exact ⟨_, rfl, (BAt.lit _ _ [X, Y] 2 _ rfl rfl (by omega)).low, (Keeps.refl _ _).alloc _⟩
                  refine ⟨_, rfl, fun w2 hk2 hK => ?_, fun u16 => ?_⟩
                  rotate_left 1
                  simp only [dstOf, Act.put, List.getElem?_toArray, List.getElem?_cons_succ, List.getElem?_cons_zero, Option.bind_some, List.setIfInBounds_toArray, List.set_cons_zero, List.set_cons_succ, List.nil_append, List.cons_append]
                  rotate_left 1
                  · have k15 : BRd w2 u15 [X, Y] := hK (15, u15) (by simp) (by kernel_rfl)
                    have hTX := k15.text
                    go_wp2
                    exact ⟨_, rfl, rfl, Keeps.refl _ _⟩
                  refine ⟨_, rfl, fun w2 hk2 hK => ?_, fun u17 => ?_⟩
                  rotate_left 1
                  simp only [dstOf, Act.put, List.getElem?_toArray, List.getElem?_cons_succ, List.getElem?_cons_zero, Option.bind_some, List.setIfInBounds_toArray, List.set_cons_zero, List.set_cons_succ, List.nil_append, List.cons_append]
                  rotate_left 1
                  · obtain rfl : u16 = .string ⟨[X, Y].toArray⟩ := hK (16, u16) (by simp) (by kernel_rfl)
                    have ea' : (ByteArray.mk S.toArray) ++ (ByteArray.mk #[X, Y]) = ⟨S'.toArray⟩ := ea
                    go_wp2
                    exact ⟨_, rfl, rfl, Keeps.refl _ _⟩
                  refine ⟨_, rfl, fun w2 hk2 hK => ?_, fun u22 => ?_⟩
                  rotate_left 1
                  simp only [dstOf, Act.put, List.getElem?_toArray, List.getElem?_cons_succ, List.getElem?_cons_zero, Option.bind_some, List.setIfInBounds_toArray, List.set_cons_zero, List.set_cons_succ, List.nil_append, List.cons_append]
                  rotate_left 1
                  · have kk := (Keeps.drew (Keeps.refl (fun _ => False) wr)).trans hk2 (fun _ _ h => h)
                    have k3 := kk.cell k2 (fun h => h)
                    go_wp2
                    exact ⟨_, rfl, rfl, Keeps.refl _ _⟩
                  refine ⟨_, rfl, fun w2 hk2 hK => ?_, fun u23 => ?_⟩
                  rotate_left 1
                  simp only [dstOf, Act.put, List.getElem?_toArray, List.getElem?_cons_succ, List.getElem?_cons_zero, Option.bind_some, List.setIfInBounds_toArray, List.set_cons_zero, List.set_cons_succ, List.nil_append, List.cons_append]
                  rotate_left 1
                  · obtain rfl : u17 = .string ⟨S'.toArray⟩ := hK (17, u17) (by simp) (by kernel_rfl)
                    obtain rfl : u22 = .string ⟨m.toArray⟩ := hK (22, u22) (by simp) (by kernel_rfl)
                    go_wp2
                    exact ⟨_, rfl, rfl, Keeps.refl _ _⟩
                  refine ⟨_, rfl, fun w2 hk2 hK => ?_, fun u24 => ?_⟩
                  rotate_left 1
                  simp only [dstOf, Act.put, List.getElem?_toArray, List.getElem?_cons_succ, List.getElem?_cons_zero, Option.bind_some, List.setIfInBounds_toArray, List.set_cons_zero, List.set_cons_succ, List.nil_append, List.cons_append]
                  rotate_left 1
                  · obtain rfl : u23 = .string ⟨S2.toArray⟩ := hK (23, u23) (by simp) (by kernel_rfl)
                    go_wp2
                    exact ⟨_, rfl, rfl, Keeps.refl _ _⟩
                  intro w2 hk2 hK
                  obtain rfl : u24 = .string ⟨S2.toArray⟩ := hK (24, u24) (by simp)
                  have hkB := hkA.trans hk2 (fun _ _ h => h)
                  go_wp2
                  go_roundw
                  case rel =>
                    refine ⟨i + 1, S2, by omega, by go_num, rfl, ?_, fun x hx => ?_, hkB⟩
                    · rw [encA_take L i hlt, HS.out, HLI.out, ← HS2.out]
                      unfold encO
                      simp only
                      rw [if_neg HC4.out, HX.out, HY.out]
                    · rw [List.take_succ_eq_append_getElem hlt] at hx
                      rcases List.mem_append.1 hx with hx | hx
                      · exact hgood x hx
                      · rw [List.mem_singleton] at hx
                        rw [hx, HLI.out]; exact hgo
                  case measure => simp [intOf]; omega
        · have hlt' : (L.length : Int) ≤ (i : Int) := by omega
          have hall : L.take i = L := List.take_of_length_le (by omega)
          rw [hall] at hS hgood
          have o1 := optF_enc L [] hgood (.inl rfl)
          have o2 := optF_enc L (0 :: R) hgood (.inr rfl)
          rw [hS] at o1 o2
          rw [List.append_nil] at o1
          have ea := ba_append S [0]
          obtain ⟨S', hS'⟩ : ∃ S', S ++ [0] = S' := ⟨_, rfl⟩
          rw [hS'] at ea
          have ea' : (ByteArray.mk S.toArray) ++ (ByteArray.mk #[0]) = ⟨S'.toArray⟩ := ea
          have eb := ba_append S' R
          obtain ⟨S2, hS2⟩ : ∃ S2, S' ++ R = S2 := ⟨_, rfl⟩
          rw [hS2] at eb
          have e2 : S ++ 0 :: R = S2 := by rw [← hS2, ← hS', List.append_assoc]; rfl
          rw [e2] at o2
          have hSi : (S.length : Int) ≤ 7650 := by omega
          have hSi' : (S'.length : Int) ≤ 7700 := by rw [← hS']; simp; omega
          have hS2l : S2.length ≤ 10000 := by rw [← hS2, ← hS']; simp; omega
          have c1 := opts_any S wr (by omega)
          rw [o1] at c1
          have HC1 := Lib.hid c1
          have HO2 := Lib.hid o2
          clear c1 o1 o2 hS' hS2 ea e2 hall hS hgood
          go_wp2_with fail
          refine HC1.out.mono ?_
          rintro e w2 ⟨v2, rfl, hx2, hk2⟩
          go_wp2_with fail
          have c2 := opts_any S2 w2 (by omega)
          rw [HO2.out] at c2
          refine c2.mono ?_
          rintro e w3 ⟨v3, rfl, hx3, hk3⟩
          clear c2
          have hk23 := hkw.trans (hk2.trans hk3 (fun _ _ h => h)) (fun _ _ h => h)
          have g2 := hx2
          have g3 := hx3
          obtain ⟨A2, z2, rfl, -, -⟩ := hx2
          obtain ⟨A3, z3, rfl, -, -⟩ := hx3
          go_wp2_with (go_at_call 13; refine (awake_any _ (hg.keeps hk23)).mono ?_; rintro e w4 ⟨rfl, hk4⟩)
          refine (exts_any (.slice A2 L.length z2) (.slice A L.length c) L w4 (by omega) (g2.keeps (hk3.trans hk4 (fun _ _ h => h))) (hx.keeps (hk23.trans hk4 (fun _ _ h => h)))).mono ?_
          rintro e w5 ⟨rfl, hk5⟩
          go_wp2_with fail
          refine (exts_any (.slice A3 L.length z3) (.slice A L.length c) L w5 (by omega) (g3.keeps (hk4.trans hk5 (fun _ _ h => h))) (hx.keeps ((hk23.trans hk4 (fun _ _ h => h)).trans hk5 (fun _ _ h => h)))).mono ?_
          rintro e w6 ⟨rfl, hk6⟩
          go_wp2
          go_ret
          exact ⟨rfl, ((hk23.trans hk4 (fun _ _ h => h)).trans hk5 (fun _ _ h => h)).trans hk6 (fun _ _ h => h)⟩

theorem lopts_row (v : Value) (L : List S41) (s : ByteArray) (w : World) (h : XRd w v L) (hm : L.length ≤ 9223372036854775807) (hs : s.size ≤ maxLen) (hg : ErrT w) :
    Calls Tryd.prog 5 #[v, .string s] w fun e w' => e = .returned (.bool true) ∧ Keeps (fun _ => False) w w' := by
  have hl : s.data.toList.length = s.size := by rw [Array.length_toList]; rfl
  have e : (⟨s.data.toList.toArray⟩ : ByteArray) = s := by cases s; simp
  have := lopts_any v L s.data.toList w h hm (by rw [hl]; unfold maxLen at hs; omega) hg
  rwa [e] at this
end Go.Proofs.YtjcbbmlloadagaaDoor
