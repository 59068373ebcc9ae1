/- Words that stay: bytes, rows of bytes. -/
import Derived.Test.YtkcnllbfinjaiaaDoorPar
import Derived.Test.YtkcnllbfinjaiaaDoorBytes2
namespace Go.Proofs.YtkcnllbfinjaiaaDoor
open Go.RowKit

def BRd (w : World) (v : Value) (l : List UInt8) : Prop := BAt w (· < w.heap.size) v l
def BBRd (w : World) (v : Value) (ls : List (List UInt8)) : Prop := BBAt w (· < w.heap.size) (· < w.heap.size) v ls
theorem BRd.keeps {w w' : World} {v : Value} {l : List UInt8} (h : BRd w v l) (hk : Keeps (fun _ => False) w w') : BRd w' v l :=
  (BAt.keeps h hk (fun _ _ h => h)).mono fun b hb => Nat.lt_of_lt_of_le hb hk.size
theorem BBRd.keeps {w w' : World} {v : Value} {ls : List (List UInt8)} (h : BBRd w v ls) (hk : Keeps (fun _ => False) w w') : BBRd w' v ls := by
  obtain ⟨vs, h1, h2, h3⟩ := BBAt.keeps h hk (fun _ _ h => h) (fun _ _ h => h)
  exact ⟨vs, h1, h2.mono fun b hb => Nat.lt_of_lt_of_le hb hk.size, fun i x l hx hl => (h3 i x l hx hl).mono fun b hb => Nat.lt_of_lt_of_le hb hk.size⟩
def rBytes (l : List UInt8) : Rel := ⟨fun v w => BRd w v l, fun _ _ _ h hk => h.keeps hk⟩
def rRows (ls : List (List UInt8)) : Rel := ⟨fun v w => BBRd w v ls, fun _ _ _ h hk => h.keeps hk⟩
end Go.Proofs.YtkcnllbfinjaiaaDoor
