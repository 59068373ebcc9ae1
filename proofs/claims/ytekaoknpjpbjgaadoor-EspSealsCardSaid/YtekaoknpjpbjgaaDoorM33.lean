/- Words, walks and plain laws that the claim leans on, part 33. -/
import Derived.Test.YtekaoknpjpbjgaaDoorM11
import Derived.Test.YtekaoknpjpbjgaaDoorTie
import Derived.ProofKit
import Derived.OpenShut
import Derived.LaidMore
import Derived.Lay

/-! What the listed variable's datum gives the walks: the table of numbers stands. -/
namespace Go.Proofs.YtekaoknpjpbjgaaDoor
set_option linter.unusedVariables false
set_option linter.unusedSimpArgs false
open Go.ChangeShapes Go.WideShapes Go.ChangeAt Go.RowKit

def laids : List (String × DataW Unit) := [("redoubt/digest.constants", Rows.laid_redoubt_digest_constants)]
theorem datum_is : (Rows.laid_redoubt_digest_constants : DataW Unit) = .agg (kList.map fun u => .lit (.int .u32 (u.toNat : Int))) := by kernel_rfl
theorem table_of {W : World} (h : laidMetH Tryd.prog laids W) : Table W := by
  intro r hr
  rw [MakeChecks.laidMetH_plain _ _ _ (by kernel_rfl)] at h
  obtain ⟨ps, ⟨g, t, cs, fuel, p, q, hg, ht, hv, hd, _, _⟩, _, _⟩ := h
  obtain rfl := Option.some.inj ((show Tryd.prog.globalNamed "redoubt/digest.constants" = some 0 by kernel_rfl).symm.trans hg)
  have hty : (Tryd.prog.globals[0]?).map (·.type) = some 105 := by kernel_rfl
  obtain rfl := Option.some.inj (hty.symm.trans ht)
  obtain ⟨xs, m, _, ex, _, hl, hel⟩ := DataW.trod_array Tryd.underlying105 hd
  have c5 : Tryd.prog.cellsOf 102 = 1 := by kernel_rfl
  have hE := hel r hr
  rw [c5, Nat.mul_one, List.getElem?_eq_getElem (by omega)] at hE
  obtain ⟨z, e1, e2, _⟩ := DataW.trod_int Tryd.underlying102 hE
  have hlen : kList.length = 72 := by decide
  rw [datum_is] at ex
  have e3 : (xs.map (·.1)) = kList.map fun u => .lit (.int .u32 (u.toNat : Int)) := (DataW.agg.inj (Prod.mk.inj ex).1).symm
  have e4 : (xs.map (·.1))[r]? = (kList.map fun u => (DataW.lit (.int .u32 (u.toNat : Int)) : DataW Unit))[r]? := by rw [e3]
  rw [List.getElem?_map, List.getElem?_map, List.getElem?_eq_getElem (by omega : r < xs.length), List.getElem?_eq_getElem (by omega : r < kList.length), e2] at e4
  have hz : z = ((kAt r).toNat : Int) := by
    simp only [Option.map_some, Option.some.injEq, DataW.lit.injEq, Lit.int.injEq, true_and] at e4
    rw [e4, kAt, List.getD, List.getElem?_eq_getElem (by omega : r < kList.length)]; rfl
  rw [World.var?_cell hg hv r, ← hz]
  have : cs.toList[r]? = some (.int .u32 z) := by
    have h0 : ((cs.toList.drop r).take 1)[0]? = some (.int .u32 z) := by rw [e1]; rfl
    simpa using h0
  simpa using this

end Go.Proofs.YtekaoknpjpbjgaaDoor
