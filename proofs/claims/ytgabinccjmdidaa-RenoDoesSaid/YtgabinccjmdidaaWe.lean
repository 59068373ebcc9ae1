/- Walks: the methods at any number; the document's examples; a step of a script; nil. -/
import Derived.Test.YtgabinccjmdidaaWc
import Derived.Test.YtgabinccjmdidaaWd
namespace Go.Proofs.Ytgabinccjmdidaa
open Go.RowKit

theorem ack_any (b k : Nat) (x : St) (n : Int) (w : World) (hb : RowAt w b x.cells 46) (ok : Ok k x) (hk : k ≤ 1000000) :
    Calls Try.prog 13 #[.pointer (some ⟨b, 0, none⟩), .int .i64 n] w (Meth b 46 (.int .i64 (ackE n)) (ackS x n) w) := by
  cases hn : badN n
  · exact ack_good b k x n w hb ok hk hn
  · exact ack_bad b x n w hb hn
theorem rack_any (b k : Nat) (x : St) (n : Int) (w : World) (hb : RowAt w b x.cells 38) (ok : Ok k x) (hk : k ≤ 1000000) :
    Calls Try.prog 21 #[.pointer (some ⟨b, 0, none⟩), .int .i64 n] w (Meth b 38 (.int .i64 (ackE n)) (ackS x n) w) := by
  cases hn : badN n
  · exact rack_good b k x n w hb ok hk hn
  · exact rack_bad b x n w hb hn
theorem lost_any (b k : Nat) (x : St) (f : Int) (w : World) (hb : RowAt w b x.cells 46) (ok : Ok k x) (hf1 : f ≤ 9223372036854775807) :
    Calls Try.prog 9 #[.pointer (some ⟨b, 0, none⟩), .int .i64 f] w (Meth b 46 (.int .i64 (negE f)) (lostS x f) w) := by
  by_cases hn : f < 0
  · exact lost_neg b x f w hb hn
  · exact lost_good b k x f w hb ok (by omega) hf1
theorem dup_any (b k : Nat) (x : St) (f : Int) (w : World) (hb : RowAt w b x.cells 46) (ok : Ok k x) (hk : k ≤ 1000000) (hf1 : f ≤ 9223372036854775807) :
    Calls Try.prog 16 #[.pointer (some ⟨b, 0, none⟩), .int .i64 f] w (Meth b 46 (.tuple #[.bool (dupB x f), .int .i64 (negE f)]) (dupS x f) w) := by
  by_cases hn : f < 0
  · exact dup_neg b x f w hb hn
  · exact dup_good b k x f w hb ok hk (by omega) hf1
theorem res_any (b k : Nat) (x : St) (n : Int) (w : World) (hb : RowAt w b x.cells 46) (ok : Ok k x) :
    Calls Try.prog 17 #[.pointer (some ⟨b, 0, none⟩), .int .i64 n] w (Meth b 46 (.int .i64 (resE n)) (resS x n) w) := by
  cases hn : bad n
  · exact res_good b k x n w hb ok hn
  · exact res_bad b x n w hb hn

theorem Keeps.and {S S' : Nat → Prop} {a b c : World} (h : Keeps S a b) (k : Keeps S' b c) : Keeps (fun i => S i ∨ S' i) a c :=
  (h.mono fun _ _ => Or.inl).trans k fun _ _ => Or.inr

set_option maxHeartbeats 4000000 in
theorem awake_any (w : World) : Calls Try.prog 10 #[] w fun e w' => e = .returned (.bool true) ∧ Keeps (fun _ => False) w w' := by
  go_enter Try.func10, Try.ntmps10
  go_wp2_with fail
  refine (new_good 1000 _ rfl).mono ?_
  rintro e w1 ⟨b, hb, rfl, r1, k1⟩
  have r1 := r1.eq (show _ = (⟨1000, 2000, 65535, 0, 0, false⟩ : St).cells from rfl)
  go_wp2_with fail
  refine (size_any b ⟨1000, 2000, 65535, 0, 0, false⟩ _ r1).mono ?_
  rintro e w' ⟨rfl, rfl⟩
  go_wp2_with fail
  refine (ack_any b 2 ⟨1000, 2000, 65535, 0, 0, false⟩ 1000 _ r1 (by constructor <;> decide) (by decide)).mono ?_
  rintro e w2 ⟨rfl, r2, k2⟩
  have r2 := r2.eq (show _ = (⟨1000, 3000, 65535, 0, 0, false⟩ : St).cells from rfl)
  go_wp2_with fail
  refine (size_any b ⟨1000, 3000, 65535, 0, 0, false⟩ _ r2).mono ?_
  rintro e w' ⟨rfl, rfl⟩
  go_wp2_with fail
  refine (lost_any b 2 ⟨1000, 3000, 65535, 0, 0, false⟩ 4000 _ r2 (by constructor <;> decide) (by decide)).mono ?_
  rintro e w3 ⟨rfl, r3, k3⟩
  have r3 := r3.eq (show _ = (⟨1000, 1000, 2000, 0, 0, false⟩ : St).cells from rfl)
  go_wp2_with fail
  refine (size_any b ⟨1000, 1000, 2000, 0, 0, false⟩ _ r3).mono ?_
  rintro e w' ⟨rfl, rfl⟩
  go_wp2_with fail
  refine (ack_any b 2 ⟨1000, 1000, 2000, 0, 0, false⟩ 1000 _ r3 (by constructor <;> decide) (by decide)).mono ?_
  rintro e w4 ⟨rfl, r4, k4⟩
  have r4 := r4.eq (show _ = (⟨1000, 2000, 2000, 0, 0, false⟩ : St).cells from rfl)
  go_wp2_with fail
  refine (ack_any b 2 ⟨1000, 2000, 2000, 0, 0, false⟩ 1000 _ r4 (by constructor <;> decide) (by decide)).mono ?_
  rintro e w5 ⟨rfl, r5, k5⟩
  have r5 := r5.eq (show _ = (⟨1000, 2000, 2000, 0, 1000, false⟩ : St).cells from rfl)
  go_wp2_with fail
  refine (size_any b ⟨1000, 2000, 2000, 0, 1000, false⟩ _ r5).mono ?_
  rintro e w' ⟨rfl, rfl⟩
  go_wp2_with fail
  refine (ack_any b 2 ⟨1000, 2000, 2000, 0, 1000, false⟩ 2000 _ r5 (by constructor <;> decide) (by decide)).mono ?_
  rintro e w6 ⟨rfl, r6, k6⟩
  have r6 := r6.eq (show _ = (⟨1000, 3000, 2000, 0, 1000, false⟩ : St).cells from rfl)
  go_wp2_with fail
  refine (size_any b ⟨1000, 3000, 2000, 0, 1000, false⟩ _ r6).mono ?_
  rintro e w' ⟨rfl, rfl⟩
  go_wp2_with fail
  refine (new_good 1000 _ rfl).mono ?_
  rintro e w7 ⟨c, hc, rfl, s1, k7⟩
  have s1 := s1.eq (show _ = (⟨1000, 2000, 65535, 0, 0, false⟩ : St).cells from rfl)
  have r7 := r6.keeps k7 (fun h => h)
  have hbc : b ≠ c := by have := r6.lt; omega
  go_wp2_with fail
  refine (dup_any c 2 ⟨1000, 2000, 65535, 0, 0, false⟩ 8000 _ s1 (by constructor <;> decide) (by decide) (by decide)).mono ?_
  rintro e w8 ⟨rfl, s2, k8⟩
  have s2 := s2.eq (show _ = (⟨1000, 2000, 65535, 1, 0, false⟩ : St).cells from rfl)
  go_wp2_with fail
  refine (dup_any c 2 ⟨1000, 2000, 65535, 1, 0, false⟩ 8000 _ s2 (by constructor <;> decide) (by decide) (by decide)).mono ?_
  rintro e w9 ⟨rfl, s3, k9⟩
  have s3 := s3.eq (show _ = (⟨1000, 2000, 65535, 2, 0, false⟩ : St).cells from rfl)
  go_wp2_with fail
  refine (dup_any c 2 ⟨1000, 2000, 65535, 2, 0, false⟩ 8000 _ s3 (by constructor <;> decide) (by decide) (by decide)).mono ?_
  rintro e w10 ⟨rfl, s4, k10⟩
  have s4 := s4.eq (show _ = (⟨1000, 7000, 4000, 3, 0, true⟩ : St).cells from rfl)
  rw [show dupB ⟨1000, 2000, 65535, 2, 0, false⟩ 8000 = true from rfl]
  go_wp2_with fail
  refine (size_any c ⟨1000, 7000, 4000, 3, 0, true⟩ _ s4).mono ?_
  rintro e w' ⟨rfl, rfl⟩
  go_wp2_with fail
  refine (ack_any c 3 ⟨1000, 7000, 4000, 3, 0, true⟩ 1 _ s4 (by constructor <;> decide) (by decide)).mono ?_
  rintro e w11 ⟨rfl, s5, k11⟩
  have s5 := s5.eq (show _ = (⟨1000, 4000, 4000, 0, 0, false⟩ : St).cells from rfl)
  have r11 := (((r7.keeps k8 hbc).keeps k9 hbc).keeps k10 hbc).keeps k11 hbc
  go_wp2_with (first | (go_at_call 12; refine (edge_any b ⟨1000, 3000, 2000, 0, 1000, false⟩ _ r11).mono ?_; rintro e w' ⟨rfl, rfl⟩) | (go_at_call 11; refine (size_any c ⟨1000, 4000, 4000, 0, 0, false⟩ _ s5).mono ?_; rintro e w' ⟨rfl, rfl⟩))
  go_ret
  refine ⟨rfl, ?_⟩
  have q1 : Keeps (fun i => i = b) w w6 := ((((k1.mono fun _ _ h => h.elim).trans k2 fun _ _ h => h).trans k3 fun _ _ h => h).trans k4 fun _ _ h => h).trans k5 (fun _ _ h => h) |>.trans k6 (fun _ _ h => h)
  have q2 : Keeps (fun i => i = c) w6 w11 := ((((k7.mono fun _ _ h => h.elim).trans k8 fun _ _ h => h).trans k9 fun _ _ h => h).trans k10 fun _ _ h => h).trans k11 (fun _ _ h => h)
  have hw6 := q1.size
  exact (q1.and q2).mono fun i hi h => by rcases h with h | h <;> omega

end Go.Proofs.Ytgabinccjmdidaa
