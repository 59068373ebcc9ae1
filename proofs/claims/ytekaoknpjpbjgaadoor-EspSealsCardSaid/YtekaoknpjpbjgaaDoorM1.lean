/- Words, walks and plain laws that the claim leans on, part 1. -/

/-! AES in plain words: what the program's text computes, what the reference's text computes, that they are the same. -/
namespace Go.Proofs.YtekaoknpjpbjgaaDoor
set_option linter.unusedVariables false
set_option linter.unusedSimpArgs false

/-- The product with x. -/
def dbl (x : UInt8) : UInt8 := (x <<< 1) ^^^ (if 128 ≤ x then 27 else 0)
def timesF : Nat → UInt8 → UInt8 → UInt8 → UInt8
  | 0, out, _, _ => out
  | n + 1, out, x, y => timesF n (if y &&& 1 = 1 then out ^^^ x else out) (dbl x) (y >>> 1)
/-- The product with f6. -/
def tf6 (x : UInt8) : UInt8 := timesF 8 0 x 0xf6
def rotl (x : UInt8) (k : UInt8) : UInt8 := (x <<< k) ||| (x >>> (8 - k))
def affine (b : UInt8) : UInt8 := b ^^^ rotl b 1 ^^^ rotl b 2 ^^^ rotl b 3 ^^^ rotl b 4 ^^^ 0x63
structure BoxS where
  o : List UInt8
  p : UInt8
  q : UInt8
def boxStep (s : BoxS) : BoxS := ⟨s.o.set s.p.toNat (affine s.q), dbl s.p ^^^ s.p, tf6 s.q⟩
def boxS : Nat → BoxS
  | 0 => ⟨List.replicate 256 0, 1, 1⟩
  | k + 1 => boxStep (boxS k)
def boxL : List UInt8 := (boxS 255).o.set 0 0x63
theorem boxS_len : ∀ k, (boxS k).o.length = 256
  | 0 => List.length_replicate
  | k + 1 => (List.length_set).trans (boxS_len k)
theorem boxL_len : boxL.length = 256 := (List.length_set).trans (boxS_len 255)
set_option maxRecDepth 100000 in
theorem boxL_is : boxL.map (·.toNat) = [99, 124, 119, 123, 242, 107, 111, 197, 48, 1, 103, 43, 254, 215, 171, 118, 202, 130, 201, 125, 250, 89, 71, 240, 173, 212, 162, 175, 156, 164, 114, 192, 183, 253, 147, 38, 54, 63, 247, 204, 52, 165, 229, 241, 113, 216, 49, 21, 4, 199, 35, 195, 24, 150, 5, 154, 7, 18, 128, 226, 235, 39, 178, 117, 9, 131, 44, 26, 27, 110, 90, 160, 82, 59, 214, 179, 41, 227, 47, 132, 83, 209, 0, 237, 32, 252, 177, 91, 106, 203, 190, 57, 74, 76, 88, 207, 208, 239, 170, 251, 67, 77, 51, 133, 69, 249, 2, 127, 80, 60, 159, 168, 81, 163, 64, 143, 146, 157, 56, 245, 188, 182, 218, 33, 16, 255, 243, 210, 205, 12, 19, 236, 95, 151, 68, 23, 196, 167, 126, 61, 100, 93, 25, 115, 96, 129, 79, 220, 34, 42, 144, 136, 70, 238, 184, 20, 222, 94, 11, 219, 224, 50, 58, 10, 73, 6, 36, 92, 194, 211, 172, 98, 145, 149, 228, 121, 231, 200, 55, 109, 141, 213, 78, 169, 108, 86, 244, 234, 101, 122, 174, 8, 186, 120, 37, 46, 28, 166, 180, 198, 232, 221, 116, 31, 75, 189, 139, 138, 112, 62, 181, 102, 72, 3, 246, 14, 97, 53, 87, 185, 134, 193, 29, 158, 225, 248, 152, 17, 105, 217, 142, 148, 155, 30, 135, 233, 206, 85, 40, 223, 140, 161, 137, 13, 191, 230, 66, 104, 65, 153, 45, 15, 176, 84, 187, 22] := by rfl

def sbox (x : UInt8) : UInt8 := boxL.getD x.toNat 0

/-! The reference's, on numbers. -/
def timesN : Nat → Nat → Nat → Nat → Nat
  | 0, n, _, _ => n
  | k + 1, n, x, y => timesN k (if y % 2 = 1 then n ^^^ x else n) (if 2 * x > 255 then 2 * x ^^^ 283 else 2 * x) (y / 2)
def tN (x y : Nat) : Nat := timesN 8 0 x y
def invF : Nat → Nat → Nat → Nat
  | 0, n, _ => n
  | k + 1, n, p => invF k (tN n (tN p p)) (tN p p)
def invN (x : Nat) : Nat := if x = 0 then 0 else invF 7 1 x
def boxF : Nat → Nat → Nat → Nat
  | 0, n, _ => n
  | k + 1, n, b => boxF k (n ^^^ (b * 2 % 256 + b / 128)) (b * 2 % 256 + b / 128)
def boxN (x : Nat) : Nat := boxF 4 (invN x ^^^ 99) (invN x)
set_option maxRecDepth 100000 in
theorem boxN_is : (List.range 256).map boxN = boxL.map (·.toNat) := by rw [boxL_is]; rfl
set_option maxRecDepth 100000 in
theorem tN2_is : (List.range 256).map (fun x => tN x 2) = (List.range 256).map (fun x => (dbl (UInt8.ofNat x)).toNat) := by rfl
set_option maxRecDepth 100000 in
theorem tN3_is : (List.range 256).map (fun x => tN x 3) = (List.range 256).map (fun x => (dbl (UInt8.ofNat x) ^^^ UInt8.ofNat x).toNat) := by rfl
theorem boxN_eq (x : UInt8) : boxN x.toNat = (sbox x).toNat := by
  have h := congrArg (fun l => l[x.toNat]?) boxN_is
  have hx := x.toNat_lt
  simp only [List.getElem?_map, List.getElem?_range hx, Option.map_some] at h
  have hb : boxL[x.toNat]? = some (sbox x) := by
    unfold sbox
    rw [List.getD_eq_getElem?_getD, List.getElem?_eq_getElem (by rw [boxL_len]; exact hx)]
    rfl
  rw [hb] at h
  exact Option.some.inj h
theorem at_range {f g : Nat → Nat} (h : (List.range 256).map f = (List.range 256).map g) (x : UInt8) : f x.toNat = g x.toNat := by
  have h := congrArg (fun l => l[x.toNat]?) h
  simp only [List.getElem?_map, List.getElem?_range x.toNat_lt, Option.map_some] at h
  exact Option.some.inj h
theorem tN2 (x : UInt8) : tN x.toNat 2 = (dbl x).toNat := by
  have := at_range tN2_is x
  simpa using this
theorem tN3 (x : UInt8) : tN x.toNat 3 = (dbl x ^^^ x).toNat := by
  have := at_range tN3_is x
  simpa using this
theorem hi_iff (x : UInt8) : 128 ≤ x ↔ x >>> 7 = 1 := by
  rw [UInt8.le_iff_toNat_le, ← UInt8.toNat_inj, UInt8.toNat_shiftRight]
  have := x.toNat_lt
  show 128 ≤ x.toNat ↔ x.toNat >>> 7 = 1
  rw [Nat.shiftRight_eq_div_pow]
  omega
theorem hi_cases (x : UInt8) : x >>> 7 = 0 ∨ x >>> 7 = 1 := by
  rw [← UInt8.toNat_inj, ← UInt8.toNat_inj, UInt8.toNat_shiftRight]
  have := x.toNat_lt
  show x.toNat >>> 7 = 0 ∨ x.toNat >>> 7 = 1
  rw [Nat.shiftRight_eq_div_pow]
  omega
theorem dbl_xor (x y : UInt8) : dbl (x ^^^ y) = dbl x ^^^ dbl y := by
  unfold dbl
  have h : (x ^^^ y) >>> 7 = (x >>> 7) ^^^ (y >>> 7) := by
    rw [← UInt8.toNat_inj]
    simp only [UInt8.toNat_shiftRight, UInt8.toNat_xor, Nat.shiftRight_xor_distrib]
  have h1 : (x ^^^ y) <<< 1 = (x <<< 1) ^^^ (y <<< 1) := by
    rw [← UInt8.toBitVec_inj]
    simp [BitVec.shiftLeft_xor_distrib]
  simp only [hi_iff]
  rw [h, h1]
  rcases hi_cases x with hx | hx <;> rcases hi_cases y with hy | hy <;> rw [hx, hy]
  · simp
  · simp [UInt8.xor_assoc]
  · simp
    ac_rfl
  · have e : ∀ z : UInt8, 27 ^^^ (z ^^^ 27) = z := fun z => by rw [UInt8.xor_comm z, ← UInt8.xor_assoc]; simp
    simp [UInt8.xor_assoc, e]
theorem mix_eq (a b c d : UInt8) : a ^^^ (a ^^^ b ^^^ c ^^^ d) ^^^ dbl (a ^^^ b) = dbl a ^^^ (dbl b ^^^ b) ^^^ c ^^^ d := by
  rw [dbl_xor]
  have e : a ^^^ (a ^^^ b ^^^ c ^^^ d) = b ^^^ c ^^^ d := by
    rw [UInt8.xor_assoc a b c, UInt8.xor_assoc a _ d, ← UInt8.xor_assoc a a]; simp
  rw [e]
  ac_rfl

/-! Keys, blocks. -/
def at8 (l : List UInt8) (i : Nat) : UInt8 := l.getD i 0
def keyWord (n : Nat) (out : List UInt8) (t : UInt8) : List UInt8 :=
  if out.length % n = 0 then [sbox (at8 out (out.length - 3)) ^^^ t, sbox (at8 out (out.length - 2)), sbox (at8 out (out.length - 1)), sbox (at8 out (out.length - 4))]
  else if n = 32 ∧ out.length % 32 = 16 then [sbox (at8 out (out.length - 4)), sbox (at8 out (out.length - 3)), sbox (at8 out (out.length - 2)), sbox (at8 out (out.length - 1))]
  else [at8 out (out.length - 4), at8 out (out.length - 3), at8 out (out.length - 2), at8 out (out.length - 1)]
def keyStep (n : Nat) (out : List UInt8) (t : UInt8) : List UInt8 := out ++ (List.range 4).map fun k => at8 (keyWord n out t) k ^^^ at8 out (out.length - n + k)
def turnStep (n : Nat) (out : List UInt8) (t : UInt8) : UInt8 := if out.length % n = 0 then dbl t else t
def keysF (n : Nat) : Nat → List UInt8 → UInt8 → List UInt8
  | 0, out, _ => out
  | f + 1, out, t => keysF n f (keyStep n out t) (turnStep n out t)
def keysOf (key : List UInt8) : List UInt8 := keysF key.length (if key.length = 16 then 40 else 52) key 1
theorem keyStep_len (n : Nat) (out : List UInt8) (t : UInt8) : (keyStep n out t).length = out.length + 4 := by simp [keyStep]
theorem keysF_len (n : Nat) : ∀ (f : Nat) (out : List UInt8) (t : UInt8), (keysF n f out t).length = out.length + 4 * f
  | 0, _, _ => rfl
  | f + 1, out, t => by
    show (keysF n f (keyStep n out t) (turnStep n out t)).length = _
    rw [keysF_len n f, keyStep_len]
    omega
def withF (b keys : List UInt8) : List UInt8 := (List.range 16).map fun i => at8 b i ^^^ at8 keys i
def rowsF (b : List UInt8) : List UInt8 := (List.range 16).map fun i => sbox (at8 b (5 * i % 16))
def mixF (b : List UInt8) : List UInt8 := (List.range 16).map fun i =>
  dbl (at8 b i) ^^^ (dbl (at8 b (i / 4 * 4 + (i + 1) % 4)) ^^^ at8 b (i / 4 * 4 + (i + 1) % 4)) ^^^ at8 b (i / 4 * 4 + (i + 2) % 4) ^^^ at8 b (i / 4 * 4 + (i + 3) % 4)
def roundsF : Nat → List UInt8 → List UInt8 → List UInt8
  | 0, _, b => b
  | n + 1, ks, b => roundsF n (ks.drop 16) (withF (if n = 0 then rowsF b else mixF (rowsF b)) ks)
def blockOf (keys b : List UInt8) : List UInt8 := roundsF (keys.length / 16 - 1) (keys.drop 16) (withF b keys)
theorem withF_len (b keys : List UInt8) : (withF b keys).length = 16 := by simp [withF]
theorem roundsF_len : ∀ (n : Nat) (ks b : List UInt8), b.length = 16 → (roundsF n ks b).length = 16
  | 0, _, _, h => h
  | n + 1, _, _, _ => roundsF_len n _ _ (withF_len _ _)
theorem blockOf_len (keys b : List UInt8) : (blockOf keys b).length = 16 := roundsF_len _ _ _ (withF_len _ _)
end Go.Proofs.YtekaoknpjpbjgaaDoor
