/- Words, walks and plain laws that the claim leans on, part 25. -/
import Derived.Test.YtngpbihnmgjniaaDoorM6
import Derived.Test.YtngpbihnmgjniaaDoorM7
import Derived.Test.YtngpbihnmgjniaaDoorM14

/-! redoubtref03.Parse, of bytes that may be. -/
namespace Go.Proofs.YtngpbihnmgjniaaDoor
set_option linter.unusedVariables false
set_option linter.unusedSimpArgs false
open Go.RowKit


end Go.Proofs.YtngpbihnmgjniaaDoor

/-! redoubtref03.Same, of packets that are the same. -/
namespace Go.Proofs.YtngpbihnmgjniaaDoor
set_option linter.unusedVariables false
set_option linter.unusedSimpArgs false
open Go.RowKit

set_option maxRecDepth 100000 in
set_option maxHeartbeats 4000000 in
theorem same4_any (p : P4) (x y : Value) (w : World) (hx : BRd w x p.data) (hy : BRd w y p.data) :
    Calls Tryd.prog 9 #[.agg (p4cells p x), .agg (p4cells p y)] w fun e w' => e = .returned (.bool true) ∧ Keeps (fun _ => False) w w' := by
  obtain ⟨tos, id, ttl, proto, df, mf, off, src, dst, opt, data⟩ := p
  simp only at hx hy
  obtain ⟨xa, xc, rfl, -, -⟩ := hx.slice
  obtain ⟨ya, yc, rfl, -, -⟩ := hy.slice
  unfold p4cells txt
  simp only
  obtain ⟨X, hX⟩ : ∃ X, (#[.int .i64 tos, .int .i64 id, .int .i64 ttl, .int .i64 proto, .bool df, .bool mf, .int .i64 off, .string ⟨src.toArray⟩, .string ⟨dst.toArray⟩, .string ⟨opt.toArray⟩, .slice xa data.length xc] : Array Value) = X := ⟨_, rfl⟩
  obtain ⟨Y, hY⟩ : ∃ Y, (#[.int .i64 tos, .int .i64 id, .int .i64 ttl, .int .i64 proto, .bool df, .bool mf, .int .i64 off, .string ⟨src.toArray⟩, .string ⟨dst.toArray⟩, .string ⟨opt.toArray⟩, .slice ya data.length yc] : Array Value) = Y := ⟨_, rfl⟩
  have k2 := ((Keeps.refl (fun _ => False) w).alloc (.cells #[.int .i64 tos, .int .i64 id, .int .i64 ttl, .int .i64 proto, .bool df, .bool mf, .int .i64 off, .string ⟨src.toArray⟩, .string ⟨dst.toArray⟩, .string ⟨opt.toArray⟩, .slice xa data.length xc] 24)).alloc (.cells #[.int .i64 tos, .int .i64 id, .int .i64 ttl, .int .i64 proto, .bool df, .bool mf, .int .i64 off, .string ⟨src.toArray⟩, .string ⟨dst.toArray⟩, .string ⟨opt.toArray⟩, .slice ya data.length yc] 24)
  have t1 := (hx.keeps k2).text
  have t2 := (hy.keeps k2).text
  clear hX hY
  go_enter Tryd.func9, Tryd.ntmps9
  go_wp2
  go_ret
  exact ⟨rfl, k2⟩
end Go.Proofs.YtngpbihnmgjniaaDoor
