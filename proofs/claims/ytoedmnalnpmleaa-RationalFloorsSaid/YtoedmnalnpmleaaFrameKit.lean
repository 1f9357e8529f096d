/-
  Arguments opened: slices of integers; small facts that every frame uses.
-/
import Derived.Test.YtoedmnalnpmleaaRows
import Derived.Test.YtoedmnalnpmleaaWords
import Derived.ProofKit
import Derived.OpenShut
import Derived.ShutString
import Derived.ChangeOld
import Derived.Lib.SmallJoins
namespace Go.Proofs.Ytoedmnalnpmleaa
open Go.ChangeShapes Go.WideShapes Go.ChangeAt Go.RowKit Go.Joins

theorem own : ownKnob Try.prog.godebug = none := by kernel_rfl
theorem laidOut : laidOutB Try.prog = true := by kernel_rfl

theorem lt_of_cell {w : World} {p : Addr} {v : Value} (h : w.cell? p = some v) : p.block < w.heap.size := by
  rcases Nat.lt_or_ge p.block w.heap.size with hlt | hge
  · exact hlt
  · have hn := Array.getElem?_eq_none hge
    cases p with
    | mk b o s => cases s <;> simp [World.cell?, hn] at h

section
variable {H : Type} {enc : TypeId × Value → H} {P : Program} {w : World} {base : Nat} {spare : Nat → Bool} {held : Bool}
/-- A slice of integers that came in. -/
theorem ints_in {t e : TypeId} {k : IntKind} {fuel : Nat} {c : Value} {x : DataW H × List MemPlace} (ht : P.underlying t = some (.slice e)) (he : P.underlying e = some (.int k)) (hc : P.cellsOf e = 1)
    (h : DataW.trod enc P w base spare held fuel t [c] = some x) :
    ∃ (A : Option Addr) (cap : Nat) (zs : List Int), c = .slice A zs.length cap ∧ SI w w.heap.size k A zs ∧ zs.length ≤ cap ∧ cap ≤ 9223372036854775807 ∧ ∀ n ∈ zs, (Lit.int k n).wf = true := by
  rcases open_ints ht he hc h with ⟨hcs, _⟩ | ⟨a, len, cap, zs, hcs, _, hl, hm, hz, _, hcell, hwz⟩
  · injection hcs with hcs _
    subst hcs
    exact ⟨none, 0, [], rfl, SI.nil_, Nat.zero_le _, by simp, by simp⟩
  · injection hcs with hcs _
    subst hcs
    have hlz : len ≤ zs.length := by rw [hz]; split <;> omega
    have hlt : (zs.take len).length = len := by rw [List.length_take]; omega
    refine ⟨some a, cap, zs.take len, by rw [hlt], fun h0 => ⟨a, rfl, ?_, fun j hj => ?_⟩, by omega, by simpa [maxLen] using hm, fun n hn => hwz n (List.mem_of_mem_take hn)⟩
    · have := lt_of_cell (hcell 0 (by omega))
      rwa [block_of_add] at this
    · rw [hlt] at hj
      rw [hcell j (by omega), List.getElem_take]
      simp [show j < zs.length from by omega]

/-- A parameter that is a slice of integers. -/
theorem ints_arg {t e : TypeId} {k : IntKind} {v : Value} {d : DataW H} {p : List MemPlace} (ht : P.underlying t = some (.slice e)) (he : P.underlying e = some (.int k)) (hc : P.cellsOf e = 1)
    (hv : Value.okWide P w .any base t v) (h : DataW.Trod enc P w 0 spare held t v d p) :
    ∃ (A : Option Addr) (cap : Nat) (zs : List Int), v = .slice A zs.length cap ∧ SI w w.heap.size k A zs ∧ zs.length ≤ cap ∧ cap ≤ 9223372036854775807 ∧ ∀ n ∈ zs, (Lit.int k n).wf = true := by
  obtain ⟨a0, len, cap, rfl⟩ := okWide_slice ht hv
  obtain ⟨fuel, hf⟩ := h
  exact ints_in ht he hc (by simpa [Value.cells] using hf)
end
end Go.Proofs.Ytoedmnalnpmleaa
