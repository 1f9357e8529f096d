/-
  Numbers stay where they are: cells of integers are kept.
-/
import Derived.Test.YtoedmnalnpmleaaRVal
namespace Go.Proofs.Ytoedmnalnpmleaa
open Go.RowKit

theorem lt_of_cell' {w : World} {p : Addr} {v : Value} (h : w.cell? p = some v) : p.block < w.heap.size := by
  rcases Nat.lt_or_ge p.block w.heap.size with hlt | hge
  · exact hlt
  · have hn := Array.getElem?_eq_none hge
    cases p with
    | mk b o s => cases s <;> simp [World.cell?, hn] at h

/-- Every cell that holds an integer holds it still. -/
def Kp (w w' : World) : Prop := w.heap.size ≤ w'.heap.size ∧ ∀ (p : Addr) (k : IntKind) (z : Int), w.cell? p = some (.int k z) → w'.cell? p = some (.int k z)
section
variable {a b c w w' : World}
theorem Kp.refl (w : World) : Kp w w := ⟨Nat.le_refl _, fun _ _ _ h => h⟩
theorem Kp.trans (h : Kp a b) (k : Kp b c) : Kp a c := ⟨Nat.le_trans h.1 k.1, fun p q z e => k.2 p q z (h.2 p q z e)⟩
theorem Kp.of (h : Up a b) : Kp a b := ⟨h.size, fun p _ _ e => (h.cell (p := p) (lt_of_cell' e)).trans e⟩
theorem Kp.drew (h : Kp a b) : Kp a b.drew := h
theorem Kp.drewN (h : Kp a b) (n : Nat) : Kp a (b.drewN n) := h
theorem Kp.alloc (h : Kp a b) (o : Obj) : Kp a (b.alloc o) := h.trans (Kp.of ((Below.refl _ _).alloc (Nat.le_refl _) _))
theorem Kp.setCell (h : Kp a b) {p : Addr} {v : Value} (hc : b.cell? p = some v) (hn : ∀ k z, v ≠ .int k z) (u : Value) : Kp a (b.setCell p u) := by
  refine h.trans ⟨by simp, fun q k z e => ?_⟩
  have hne : p ≠ q := by
    rintro rfl
    rw [hc] at e
    injection e with e
    exact hn k z e
  rw [World.cell?_setCell_other _ _ _ _ hne]; exact e
theorem SI.kp {B : Nat} {K : IntKind} {A : Option Addr} {zs : List Int} (h : SI w B K A zs) (hk : Kp w w') : SI w' B K A zs := fun h0 => by
  obtain ⟨ad, e, hl, hc⟩ := h h0
  exact ⟨ad, e, hl, fun j hj => hk.2 _ _ _ (hc j hj)⟩
theorem NS.kp {A : Option Addr} {x : Nat} (h : NS w A x) (hk : Kp w w') : NS w' A x := SI.more (SI.kp h hk) hk.1
theorem FV.kp {v : Value} {s : Bool} {n d : Nat} (h : FV w v s n d) (hk : Kp w w') : FV w' v s n d := by
  obtain ⟨A, ca, A', cb, rfl, h1, h2, h3⟩ := h
  exact ⟨A, ca, A', cb, rfl, h1.kp hk, h2.kp hk, h3⟩
theorem QV.kp {v : Value} {q : Rat} (h : QV w v q) (hk : Kp w w') : QV w' v q := FV.kp h hk
theorem FQ.kp {v : Value} {q : Rat} {B : Nat} (h : FQ w v q B) (hk : Kp w w') : FQ w' v q B := by
  obtain ⟨s, n, d, h1, h2⟩ := h
  exact ⟨s, n, d, h1.kp hk, h2⟩
theorem IV.kp {v : Value} {q : Rat} {B : Nat} (h : IV w v q B) (hk : Kp w w') : IV w' v q B := by
  obtain ⟨s, xs, ys, ⟨A, ca, A', cb, rfl, h1, h2, h3⟩, h4⟩ := h
  exact ⟨s, xs, ys, ⟨A, ca, A', cb, rfl, SI.more (SI.kp h1 hk) hk.1, SI.more (SI.kp h2 hk) hk.1, h3⟩, h4⟩
/-- A struct's three cells, stored anew. -/
theorem Kp.tri {g : Nat} {t : TypeId} {s : Bool} {A A' : Option Addr} {l l' c c' : Nat} (h : Kp a b) (r : Blk b g t #[.bool s, .slice A l c, .slice A' l' c']) {s' : Bool} {C C' : Option Addr} {m m' d d' : Nat} :
    Kp a (((b.setCell ⟨g, 0, none⟩ (.bool s')).setCell ⟨g, 1, none⟩ (.slice C m d)).setCell ⟨g, 2, none⟩ (.slice C' m' d')) := by
  have r1 := Blk.set_ r 0 (.bool s')
  have r2 := Blk.set_ r1 1 (.slice C m d)
  have h0 := r.cell 0
  have h1 := r1.cell 1
  have h2 := r2.cell 2
  simp at h0 h1 h2
  exact ((h.setCell h0 (by simp) _).setCell h1 (by simp) _).setCell h2 (by simp) _
end
theorem tri_blk {w : World} {g : Nat} {t : TypeId} {a b c : Value} (h : w.heap[g]? = some (.cells #[a, b, c] t (0, 0))) : Blk w g t #[a, b, c] := h
end Go.Proofs.Ytoedmnalnpmleaa
