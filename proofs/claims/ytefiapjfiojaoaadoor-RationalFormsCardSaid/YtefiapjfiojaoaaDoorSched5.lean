/-
  A region that draws its order, walked by a condition on what has come up: each operation waits for earlier ones alone.
-/
import Derived.Test.YtefiapjfiojaoaaDoorSched3
namespace Go.Proofs.YtefiapjfiojaoaaDoor
open Go Go.RowKit

section
variable {P : Program} {ops : Array Oper} {Q : Exit → Act → World → Prop} {md : Region.Mode}

/-- Each operation waits for operations of smaller number. -/
def orderly (md : Region.Mode) (ops : Array Oper) : Bool := (List.range ops.size).all fun i => match ops[i]? with
  | some o => o.after.all fun e => !(Region.binds md e) || decide (e.on < i)
  | none => true

theorem ready_all (ho : orderly md ops = true) {L : Array Bool} (hs : L.size = ops.size) (hr : Region.ready md ops L = []) : ∀ i, i < ops.size → L.getD i false = true := by
  intro i
  induction i using Nat.strongRecOn with
  | ind i ih =>
    intro hi
    cases hd : L.getD i false with
    | true => rfl
    | false =>
      exfalso
      have hm : i ∈ Region.ready md ops L := by
        refine mem_ready.2 ⟨?_, ops[i], Array.getElem?_eq_getElem hi, fun e he hb => ?_⟩
        · rw [Array.getD_eq_getD_getElem?] at hd ⊢
          rw [Array.getElem?_eq_getElem (by rw [hs]; exact hi)] at hd ⊢
          exact hd
        · simp only [orderly, List.all_eq_true, List.mem_range] at ho
          have h1 := ho i hi
          rw [Array.getElem?_eq_getElem hi] at h1
          simp only [Array.all_eq_true'] at h1
          have h2 := h1 e he
          rw [hb] at h2
          have h3 : e.on < i := by simpa using h2
          exact ih e.on h3 (by omega)
      rw [hr] at hm
      cases hm

theorem wp_region_done {id : Nat} {a : Act} {w : World} (C : (Nat → Bool) → Act → World → Prop) (hm : P.follows .mixedOrders = true) (ho : orderly .any ops = true)
    (h0 : C (fun _ => false) a w.drew) (he : ∀ d a w, (∀ i, i < ops.size → d i = true) → C d a w → Q .normal a w)
    (hs : ∀ d a w, C d a w → ∀ i, i < ops.size → d i = false → (∀ j, waits .any ops i j = true → d j = true) → wpOp P ops Q i (fun b u => C (fun j => if j = i then true else d j) b u) a w) :
    (Code.region id ops true).wp P Q a w := by
  refine wp_region_ind (fun n L a w => L.size = ops.size ∧ L.count false = n ∧ C (fun j => L.getD j false) a w) hm ?_ ?_ ?_
  · rintro L a w ⟨h1, h2, h3⟩
    have hall : ∀ i, i < ops.size → L.getD i false = true := fun i hi => by
      have hn := Array.count_eq_zero.1 h2
      cases hd : L.getD i false with
      | true => rfl
      | false =>
        exfalso
        rw [Array.getD_eq_getD_getElem?, Array.getElem?_eq_getElem (by rw [h1]; exact hi)] at hd
        exact hn (Array.mem_of_getElem hd)
    refine ⟨?_, he _ a w hall h3⟩
    cases hr : Region.ready .any ops L with
    | nil => rfl
    | cons i t =>
      exfalso
      obtain ⟨h4, h5⟩ := ready_open (show i ∈ Region.ready .any ops L by rw [hr]; exact List.mem_cons_self)
      have h6 := hall i h5
      rw [Array.getD_eq_getD_getElem?, Array.getElem?_eq_getElem (by rw [h1]; exact h5)] at h4 h6
      rw [show L[i]'(by rw [h1]; exact h5) = false from h4] at h6
      cases h6
  · rintro n L a w ⟨h1, h2, h3⟩
    refine ⟨fun hr => he _ a w (ready_all ho h1 hr) h3, fun i hi => ?_⟩
    obtain ⟨h4, h5⟩ := ready_open hi
    have h5L : i < L.size := by rw [h1]; exact h5
    have h4' : L[i] = false := by rw [Array.getD_eq_getD_getElem?, Array.getElem?_eq_getElem h5L] at h4; exact h4
    refine wpOp_mono (fun b u hb => ⟨by rw [Array.size_setIfInBounds]; exact h1, ?_, ?_⟩) (hs _ a w h3 i h5 ?_ fun j hj => ?_)
    · rw [show L.setIfInBounds i true = L.set i true h5L from by simp [Array.setIfInBounds, h5L], Array.count_set, h4']
      simp [h2]
    · have e : (fun j => (L.setIfInBounds i true).getD j false) = (fun j => if j = i then true else L.getD j false) := by
        funext j
        by_cases e : j = i
        · subst e; simp [h5L]
        · rw [if_neg e, Go.getD_set_ne _ (fun h => e h.symm)]
      rw [e]
      exact hb
    · show L.getD i false = false
      rw [Array.getD_eq_getD_getElem?, Array.getElem?_eq_getElem h5L, h4']; rfl
    · have hjs : j < L.size := by
        have h7 : j < i := by
          simp only [orderly, List.all_eq_true, List.mem_range] at ho
          have h1 := ho i h5
          simp only [waits, Array.getElem?_eq_getElem h5, Array.any_eq_true'] at hj
          rw [Array.getElem?_eq_getElem h5] at h1
          simp only [Array.all_eq_true'] at h1
          obtain ⟨e, he, hb⟩ := hj
          simp only [Bool.and_eq_true, beq_iff_eq] at hb
          have h2 := h1 e he
          rw [hb.1] at h2
          have h3 : e.on < i := by simpa using h2
          omega
        omega
      exact waits_ready hj hi hjs
  · exact ⟨Array.size_replicate, Array.count_replicate_self, by
      have e : (fun j => (Array.replicate ops.size false).getD j false) = (fun _ => false) := by
        funext j
        rw [Array.getD_eq_getD_getElem?]
        by_cases h : j < ops.size
        · simp [h]
        · simp [h]
      rw [e]; exact h0⟩
theorem wpOp_shut {i : Nat} {a : Act} {w : World} {o : Oper} {C : Act → World → Prop} (ho : ops[i]? = some o) (hw : Region.wanted o (yielded ops a.tmps) = true)
    (h : ∀ K' : Act → World → Prop, Shut (∀ a w, C a w → K' a w) → Oper.wp P o a w K' Q) : wpOp P ops Q i C a w := by
  refine wpOp_step ho fun K' hK => ?_
  rw [if_pos hw]
  exact h K' fun a w hh => hK a w hh
end
end Go.Proofs.YtefiapjfiojaoaaDoor
