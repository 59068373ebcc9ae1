/- The document's examples. -/
import Derived.Test.YtkcnllbfinjaiaaDoorEv
import Derived.Laws.IdiomStrings
import Derived.Lib.SlBytesConst
namespace Go.Proofs.YtkcnllbfinjaiaaDoor
open Go.RowKit

/-- Bytes as a text. -/
theorem BAt.text {w : World} {p : Nat → Prop} {v : Value} {l : List UInt8} (h : BAt w p v l) : (convert 22 9 v).run Tryd.prog w = .ok (.string ⟨l.toArray⟩) w := by
  obtain ⟨h1, a, c, rfl, h3, h4, h5⟩ := h
  rcases h5 with h5 | ⟨b, off, hb, rfl, hc⟩
  · have : l = [] := by simpa [bcells] using h5
    subst this
    cases a with
    | none => exact run_convert_bytes_nil w 22 5 (by kernel_rfl) (by kernel_rfl) _ _ _ (by kernel_rfl)
    | some a => exact run_convert_bytes_back w _ _ 5 a c [] (by kernel_rfl) (by kernel_rfl) (by kernel_rfl) (fun j hj => by simp at hj)
  · exact run_convert_bytes_back w _ _ 5 ⟨b, off, none⟩ c l (by kernel_rfl) (by kernel_rfl) (by kernel_rfl) (fun j hj => by rw [addr_add]; exact hc j _ (bcells_get hj))

/-- A row of bytes, just laid, marked or not. -/
theorem BAt.litF (w : World) (cs : Array Value) (l : List UInt8) (n : Nat) (T : TypeId) (fr : Nat × Nat) (h : cs = (bcells l).toArray) (hn : l.length = n) (hm : n ≤ 1099511627776) : BAt (w.alloc (.cells cs T fr)) (fun b => w.heap.size ≤ b) (.slice (some ⟨w.heap.size, 0, none⟩) n n) l := by
  subst h hn
  refine ⟨by simp [bcells], some ⟨w.heap.size, 0, none⟩, l.length, rfl, Nat.le_refl _, by simp only [maxLen]; omega, .inr ⟨w.heap.size, 0, Nat.le_refl _, rfl, fun j u hu => ?_⟩⟩
  rw [cell_of_row _ _ _ _ _ _ (heap_alloc_new w _), Nat.zero_add, List.getElem?_toArray]
  exact hu

def exRow (k : Nat) : List UInt8 := List.replicate k 11 ++ List.replicate (20 - k) 0
theorem exRow_step (k : Nat) (h : k < 20) : (exRow k).set k 11 = exRow (k + 1) := by
  unfold exRow
  rw [List.set_append_right _ _ (by simp), List.length_replicate, Nat.sub_self, show 20 - k = (20 - (k + 1)) + 1 by omega, List.replicate_succ, List.set_cons_zero, List.replicate_succ', List.append_assoc]
  rfl
theorem exRow_len (k : Nat) (h : k ≤ 20) : (exRow k).length = 20 := by simp [exRow]; omega

set_option maxRecDepth 100000 in
set_option maxHeartbeats 1000000 in
theorem awake_any (w : World) (hT : Table w) : Calls Tryd.prog 9 #[] w fun e w' => e = .returned (.bool true) ∧ Keeps (fun _ => False) w w' := by
  have hB0 : 0 < w.heap.size := World.block_lt_of_cell? w _ (hT 0 (by omega))
  go_enter Tryd.func9, Tryd.ntmps9
  go_wp2_with (at_make; (refine wpList_make_bytes rfl (.const (.int .i64 20)) (.const (.int .i64 20)) rfl w.heap.size _ _ 20 20 rfl rfl rfl rfl (by omega) (by omega) (Nat.le_refl _) (fun w1 h1 hk1 => ?_)))
  go_loopw [2] (fun u2 wr => ∃ k : Nat, k ≤ 20 ∧ u2 = .int .i64 k ∧ BOwn wr w.heap.size (.slice (some ⟨w.heap.size, 0, none⟩) 20 20) (exRow k) ∧ Keeps (fun _ => False) w wr) (fun u2 _ => 20 - (intOf u2).toNat)
  case atStart => exact ⟨0, by omega, rfl, h1, hk1⟩
  case round =>
    obtain ⟨k, hk, rfl, ho, hkw⟩ := hrel
    by_cases hlt : k < 20
    · obtain ⟨t1, t2, t3⟩ := ho.at k (by rw [exRow_len k hk]; exact hlt)
      have t4 := t3 11
      rw [exRow_step k hlt] at t4
      rw [Nat.zero_add] at t1 t2 t4
      have T4 := Lib.hid t4
      clear t3 t4
      go_wp2
      go_roundw
      case rel => exact ⟨k + 1, by omega, by go_num, T4.out, hkw.setCell _ _ (.inr (by simp))⟩
      case measure => simp [intOf]; omega
    · have hk20 : k = 20 := by omega
      have hk20' : (20 : Int) ≤ (k : Int) := by omega
      rw [hk20] at ho
      have hkey : exRow 20 = exKey := rfl
      rw [hkey] at ho
      clear hk20 hkey
      have kc := fun (w : World) (C : Array Value) (n c : Nat) => Lib.run_convert_bytes_const (P := Tryd.prog) w 22 5 C n c Tryd.underlying22 Tryd.underlying5
      have kc2 : ∀ (w : World) (D : Obj) (C : Array Value) (n c : Nat), (convert 22 22 (.slice (some ⟨w.heap.size + 1, 0, none⟩) n c)).run Tryd.prog ((w.alloc D).alloc (.cells C 5)) =
          .ok (.slice (some ⟨w.heap.size + 1, 0, none⟩) n c) ((w.alloc D).alloc (.cells C 5 (C.size, C.size + 1))) := fun w D C n c => by
        have h := kc (w.alloc D) C n c
        rwa [size_alloc] at h
      go_wp2_with fail
      have hmsg := BAt.litF wr #[.int .u8 72, .int .u8 105, .int .u8 32, .int .u8 84, .int .u8 104, .int .u8 101, .int .u8 114, .int .u8 101] exMsg 8 5 (8, 9) rfl rfl (by omega)
      have hkM := hkw.alloc (.cells #[.int .u8 72, .int .u8 105, .int .u8 32, .int .u8 84, .int .u8 104, .int .u8 101, .int .u8 114, .int .u8 101] 5 (8, 9))
      have hsM := size_alloc wr (.cells #[.int .u8 72, .int .u8 105, .int .u8 32, .int .u8 84, .int .u8 104, .int .u8 101, .int .u8 114, .int .u8 101] 5 (8, 9))
      have hbb := BBAt.one (T := 22) hmsg
      rw [hsM] at hbb
      refine (full_any _ _ exKey [exMsg] _ (BAt.low ((ho.keeps ((Keeps.refl (fun _ => False) wr).alloc (.cells #[.int .u8 72, .int .u8 105, .int .u8 32, .int .u8 84, .int .u8 104, .int .u8 101, .int .u8 114, .int .u8 101] 5 (8, 9))) (fun _ _ h => h)).keeps ((Keeps.refl (fun _ => False) _).alloc _) (fun _ _ h => h)).bat) hbb.low (by decide) (by decide) (by decide) (by decide) (hT.keeps (hkM.alloc _))).mono ?_
      rintro e w3 ⟨v3, rfl, ho3, hk3⟩
      have hk4 : Keeps (fun _ => False) w w3 := (hkM.alloc _).trans hk3 (fun _ _ h => h)
      rw [show [exMsg].flatten = exMsg from rfl, ex_tag] at ho3
      have hTX := ho3.bat.text
      clear hbb hmsg hk3 ho3
      go_wp2_with fail
      have hA := BAt.litF w3 #[.int .u8 97, .int .u8 98] [97, 98] 2 5 (2, 3) rfl rfl (by omega)
      have hB := BAt.litF (w3.alloc (.cells #[.int .u8 97, .int .u8 98] 5 (2, 3))) #[.int .u8 97, .int .u8 98] [97, 98] 2 5 (2, 3) rfl rfl (by omega)
      rw [size_alloc] at hB
      refine (same_any _ _ [97, 98] [97, 98] _ _ _ (hA.keeps ((Keeps.refl (fun _ => False) _).alloc _) (fun _ _ h => h)) hB).mono ?_
      rintro e w4 ⟨rfl, rfl⟩
      go_wp2
      go_ret
      exact ⟨rfl, (hk4.alloc _).alloc _⟩

end Go.Proofs.YtkcnllbfinjaiaaDoor
