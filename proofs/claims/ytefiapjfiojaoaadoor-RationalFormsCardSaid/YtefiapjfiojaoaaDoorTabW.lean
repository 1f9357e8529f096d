/-
  The library's table of powers of ten, in a world.
-/
import Derived.Test.YtefiapjfiojaoaaDoorPA
import Derived.Lib.ItoaMem
namespace Go.Proofs.YtefiapjfiojaoaaDoor
open Go Go.RowKit Go.Lib

def TabW (w : World) : Prop := Lib.TabIs Tryd.prog w "internal/strconv.uint64pow10" .u64 Lib.pow10Tab
theorem TabW.up {w w' : World} (h : TabW w) (u : Up w w') : TabW w' := by
  unfold TabW TabIs World.var? at *
  cases hg : Tryd.prog.globalNamed "internal/strconv.uint64pow10" with
  | none => simp [hg] at h
  | some g =>
    simp only [hg, Option.bind_some] at h ⊢
    have hlt : g < w.heap.size := by
      rcases Nat.lt_or_ge g w.heap.size with h' | h'
      · exact h'
      · rw [Array.getElem?_eq_none h'] at h; simp at h
    rw [u.block g hlt]
    exact h
end Go.Proofs.YtefiapjfiojaoaaDoor
