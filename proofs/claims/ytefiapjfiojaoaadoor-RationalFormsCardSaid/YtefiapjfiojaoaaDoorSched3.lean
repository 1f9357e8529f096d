/-
  A region that draws its order, walked by a condition on the set of operations that have come up.
-/
import Derived.Test.YtefiapjfiojaoaaDoorPF
namespace Go.Proofs.YtefiapjfiojaoaaDoor
open Go Go.RowKit

section
variable {P : Program} {ops : Array Oper} {Q : Exit → Act → World → Prop} {md : Region.Mode}

theorem waits_ready {L : Array Bool} {l i : Nat} (hw : waits md ops l i = true) (hl : l ∈ Region.ready md ops L) (hi : i < L.size) : L.getD i false = true := by
  obtain ⟨_, o, ho, hall⟩ := mem_ready.1 hl
  simp only [waits, ho, Array.any_eq_true'] at hw
  obtain ⟨e, he, hb⟩ := hw
  simp only [Bool.and_eq_true, beq_iff_eq] at hb
  have h1 := hall e he hb.1
  rw [hb.2] at h1
  simpa [hi] using h1
theorem ready_open {L : Array Bool} {i : Nat} (h : i ∈ Region.ready md ops L) : L.getD i true = false ∧ i < ops.size := by
  obtain ⟨h0, o, ho, _⟩ := mem_ready.1 h
  exact ⟨h0, (Array.getElem?_eq_some_iff.1 ho).1⟩
/-- The condition C, with the number of operations that have not come up. -/
theorem wpAny_ind (C : Nat → Array Bool → Act → World → Prop) (h0 : ∀ L a w, C 0 L a w → Region.ready md ops L = [] ∧ Q .normal a w)
    (hs : ∀ n L a w, C (n + 1) L a w → (Region.ready md ops L = [] → Q .normal a w) ∧ ∀ i ∈ Region.ready md ops L, wpOp P ops Q i (fun b u => C n (L.setIfInBounds i true) b u) a w) :
    ∀ n L a w, C n L a w → wpAny P md ops Q n L a w := by
  intro n
  induction n with
  | zero => intro L a w h; exact h0 L a w h
  | succ n ih => intro L a w h; exact ⟨(hs n L a w h).1, fun i hi => wpOp_mono (fun b u hb => ih _ b u hb) ((hs n L a w h).2 i hi)⟩
theorem wp_region_ind {id : Nat} {a : Act} {w : World} (C : Nat → Array Bool → Act → World → Prop) (hm : P.follows .mixedOrders = true)
    (h0 : ∀ L a w, C 0 L a w → Region.ready .any ops L = [] ∧ Q .normal a w)
    (hs : ∀ n L a w, C (n + 1) L a w → (Region.ready .any ops L = [] → Q .normal a w) ∧ ∀ i ∈ Region.ready .any ops L, wpOp P ops Q i (fun b u => C n (L.setIfInBounds i true) b u) a w)
    (h : C ops.size (Array.replicate ops.size false) a w.drew) : (Code.region id ops true).wp P Q a w :=
  wp_region_any hm (wpAny_ind C h0 hs _ _ a _ h)
end
end Go.Proofs.YtefiapjfiojaoaaDoor
