/-
  The contracts of metric.zero and of the document's Free.
-/
import Derived.Test.YtnaeabkknmoaeaaMKeep
import Derived.Test.YtnaeabkknmoaeaaSched2
import Derived.Deep.RegionHeld3
namespace Go.Proofs.Ytnaeabkknmoaeaa
open Go.RowKit

/-- A block of integers. -/
def BI (w : World) (g : Nat) (l : List Int) : Prop := Blk w g 2 (l.map (Value.int .i64)).toArray
theorem BI.cell {w : World} {g : Nat} {l : List Int} (h : BI w g l) {k : Nat} (hk : k < l.length) : w.cell? ⟨g, k, none⟩ = some (.int .i64 l[k]) := by
  rw [Blk.cell h k]; simp [hk]
theorem BI.up {w w' : World} {g : Nat} {l : List Int} (h : BI w g l) (hu : Up w w') : BI w' g l := Blk.up h hu
theorem BI.lt {w : World} {g : Nat} {l : List Int} (h : BI w g l) : g < w.heap.size := Blk.lt h
theorem BI.si {w : World} {g : Nat} {l : List Int} (h : BI w g l) : SI w w.heap.size .i64 (some ⟨g, 0, none⟩) l := SI.blk (t := 2) l h h.lt
theorem BI.set_ {w : World} {g : Nat} {l : List Int} (h : BI w g l) (k : Nat) (z : Int) : BI (w.setCell ⟨g, k, none⟩ (.int .i64 z)) g (l.set k z) := by
  have := Blk.set_ h k (.int .i64 z)
  unfold BI
  rw [List.map_set]
  simpa using this
theorem BI.far {w : World} {g : Nat} {l : List Int} (h : BI w g l) {p : Addr} (hp : g ≠ p.block) (u : Value) : BI (w.setCell p u) g l := Blk.far h hp u
/-- What a function returns that makes a metric of zeros. -/
def RetZ (w0 : World) (e : Ending) (w' : World) : Prop :=
  ∃ g h : Nat, e = .returned (.agg #[.slice (some ⟨g, 0, none⟩) 26 26, .slice (some ⟨h, 0, none⟩) 26 26]) ∧ BI w' g (List.replicate 26 0) ∧ BI w' h (List.replicate 26 0) ∧ g ≠ h ∧ w0.heap.size ≤ g ∧ w0.heap.size ≤ h ∧ Up w0 w'

theorem zero_world (w : World) (g h : Nat) (hg : w.heap.size ≤ g) (hh : w.heap.size ≤ h) (hne : g ≠ h) (hor : (g = w.heap.size + 1 ∧ h = w.heap.size + 1 + 1) ∨ (g = w.heap.size + 1 + 1 ∧ h = w.heap.size + 1)) (r : Array Value) (t : TypeId) :
    BI ((((w.alloc (Obj.cells r t)).alloc (Obj.cells zer26.toArray 2)).alloc (Obj.cells zer26.toArray 2)).drew) g (List.replicate 26 0) ∧ BI ((((w.alloc (Obj.cells r t)).alloc (Obj.cells zer26.toArray 2)).alloc (Obj.cells zer26.toArray 2)).drew) h (List.replicate 26 0) ∧
    Up w ((((w.alloc (Obj.cells r t)).alloc (Obj.cells zer26.toArray 2)).alloc (Obj.cells zer26.toArray 2)).drew) ∧
    Blk ((((w.alloc (Obj.cells r t)).alloc (Obj.cells zer26.toArray 2)).alloc (Obj.cells zer26.toArray 2)).drew) w.heap.size t r := by
  have e1 : BI ((((w.alloc (Obj.cells r t)).alloc (Obj.cells zer26.toArray 2)).alloc (Obj.cells zer26.toArray 2)).drew) (w.heap.size + 1) (List.replicate 26 0) := (Blk.new' (w.alloc (Obj.cells r t)) 2 zer26.toArray (by simp)).alloc _
  have e2 : BI ((((w.alloc (Obj.cells r t)).alloc (Obj.cells zer26.toArray 2)).alloc (Obj.cells zer26.toArray 2)).drew) (w.heap.size + 1 + 1) (List.replicate 26 0) := Blk.new' ((w.alloc (Obj.cells r t)).alloc (Obj.cells zer26.toArray 2)) 2 zer26.toArray (by simp)
  have e3 : Up w ((((w.alloc (Obj.cells r t)).alloc (Obj.cells zer26.toArray 2)).alloc (Obj.cells zer26.toArray 2)).drew) := ((((Below.refl _ _).alloc (Nat.le_refl _) _).alloc (by simp) _).alloc (by simp; omega) _).drew
  have e4 : Blk ((((w.alloc (Obj.cells r t)).alloc (Obj.cells zer26.toArray 2)).alloc (Obj.cells zer26.toArray 2)).drew) w.heap.size t r := ((Blk.new w t r).alloc _).alloc _
  rcases hor with ⟨rfl, rfl⟩ | ⟨rfl, rfl⟩
  · exact ⟨e1, e2, e3, e4⟩
  · exact ⟨e2, e1, e3, e4⟩

set_option maxHeartbeats 1600000 in
theorem zero_any (w : World) : Calls Try.prog 44 #[] w (RetZ w) := by
  have hmk := make26
  go_enter Try.func44, Try.ntmps44
  go_wp2_with fail
  go_region_held3 (fun _ => True) (trivial) (fail)
  all_goals go_wp2_with fail
  · obtain ⟨b1, b2, b3, b4⟩ := zero_world w (w.heap.size + 1) (w.heap.size + 1 + 1) (by omega) (by omega) (by omega) (Or.inl ⟨rfl, rfl⟩) #[.slice (some ⟨w.heap.size + 1, 0, none⟩) 26 26, .slice (some ⟨w.heap.size + 1 + 1, 0, none⟩) 26 26] 28
    have c0 := b4.cell 0
    have c1 := b4.cell 1
    simp at c0 c1
    refine bodyPost_ret (v := .agg #[.slice (some ⟨w.heap.size + 1, 0, none⟩) 26 26, .slice (some ⟨w.heap.size + 1 + 1, 0, none⟩) 26 26]) ?_ rfl ⟨_, _, rfl, b1, b2, by omega, by omega, by omega, b3⟩
    simp [results, Try.results44, go_sem, c0, c1]
  · obtain ⟨b1, b2, b3, b4⟩ := zero_world w (w.heap.size + 1 + 1) (w.heap.size + 1) (by omega) (by omega) (by omega) (Or.inr ⟨rfl, rfl⟩) #[.slice (some ⟨w.heap.size + 1 + 1, 0, none⟩) 26 26, .slice (some ⟨w.heap.size + 1, 0, none⟩) 26 26] 28
    have c0 := b4.cell 0
    have c1 := b4.cell 1
    simp at c0 c1
    refine bodyPost_ret (v := .agg #[.slice (some ⟨w.heap.size + 1 + 1, 0, none⟩) 26 26, .slice (some ⟨w.heap.size + 1, 0, none⟩) 26 26]) ?_ rfl ⟨_, _, rfl, b1, b2, by omega, by omega, by omega, b3⟩
    simp [results, Try.results44, go_sem, c0, c1]
set_option maxHeartbeats 1600000 in
theorem refFree_any (w : World) : Calls Try.prog 38 #[] w (RetZ w) := by
  have hmk := make26
  go_enter Try.func38, Try.ntmps38
  go_wp2_with fail
  go_region_held3 (fun _ => True) (trivial) (fail)
  all_goals go_wp2_with fail
  · obtain ⟨b1, b2, b3, b4⟩ := zero_world w (w.heap.size + 1) (w.heap.size + 1 + 1) (by omega) (by omega) (by omega) (Or.inl ⟨rfl, rfl⟩) #[.slice (some ⟨w.heap.size + 1, 0, none⟩) 26 26, .slice (some ⟨w.heap.size + 1 + 1, 0, none⟩) 26 26] 28
    have c0 := b4.cell 0
    have c1 := b4.cell 1
    simp at c0 c1
    refine bodyPost_ret (v := .agg #[.slice (some ⟨w.heap.size + 1, 0, none⟩) 26 26, .slice (some ⟨w.heap.size + 1 + 1, 0, none⟩) 26 26]) ?_ rfl ⟨_, _, rfl, b1, b2, by omega, by omega, by omega, b3⟩
    simp [results, Try.results38, go_sem, c0, c1]
  · obtain ⟨b1, b2, b3, b4⟩ := zero_world w (w.heap.size + 1 + 1) (w.heap.size + 1) (by omega) (by omega) (by omega) (Or.inr ⟨rfl, rfl⟩) #[.slice (some ⟨w.heap.size + 1 + 1, 0, none⟩) 26 26, .slice (some ⟨w.heap.size + 1, 0, none⟩) 26 26] 28
    have c0 := b4.cell 0
    have c1 := b4.cell 1
    simp at c0 c1
    refine bodyPost_ret (v := .agg #[.slice (some ⟨w.heap.size + 1 + 1, 0, none⟩) 26 26, .slice (some ⟨w.heap.size + 1, 0, none⟩) 26 26]) ?_ rfl ⟨_, _, rfl, b1, b2, by omega, by omega, by omega, b3⟩
    simp [results, Try.results38, go_sem, c0, c1]
end Go.Proofs.Ytnaeabkknmoaeaa
