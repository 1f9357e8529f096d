/-
  What Combine returns, in plain words: lists and the error's number.
-/
import Derived.Test.YtnaeabkknmoaeaaMCombPlain
import Derived.Test.YtnaeabkknmoaeaaMZero
namespace Go.Proofs.Ytnaeabkknmoaeaa
open Go.RowKit

/-- What Combine returns. -/
def RetC (w0 : World) (V : (List Int × List Int) × Int) (e : Ending) (w' : World) : Prop :=
  ∃ X c Y d, e = .returned (.tuple #[.agg #[.slice X V.1.1.length c, .slice Y V.1.2.length d], .int .i64 V.2]) ∧ SI w' w'.heap.size .i64 X V.1.1 ∧ SI w' w'.heap.size .i64 Y V.1.2 ∧ Up w0 w'
section
variable {ms : List (List Int × List Int)} {ws : List Int}
theorem combV_bad {m : List Int × List Int} (hm : m ∈ ms) (h : validB m.1 m.2 = false) : combV ms ws = (([], []), 10) := by
  unfold combV
  rw [if_pos]
  rw [Bool.not_eq_true', List.all_eq_false]
  exact ⟨m, hm, by simp [h]⟩
theorem combV_len (h : ∀ m ∈ ms, validB m.1 m.2 = true) (hl : ms.length ≠ ws.length) : combV ms ws = (([], []), 8) := by
  unfold combV
  rw [if_neg (by rw [Bool.not_eq_true', Bool.not_eq_false, List.all_eq_true]; exact h), if_pos hl]
theorem combV_w (h : ∀ m ∈ ms, validB m.1 m.2 = true) {x : Int} (hx : x ∈ ws) (hb : inB x = false) : combV ms ws = (([], []), 8) := by
  unfold combV
  rw [if_neg (by rw [Bool.not_eq_true', Bool.not_eq_false, List.all_eq_true]; exact h)]
  split
  · rfl
  · rw [if_pos]
    rw [Bool.not_eq_true', List.all_eq_false]
    exact ⟨x, hx, by simp [hb]⟩
theorem combV_go (h : ∀ m ∈ ms, validB m.1 m.2 = true) (hl : ms.length = ws.length) (hw : ∀ x ∈ ws, inB x = true) :
    combV ms ws = if !bndB (wlist ws (ms.map (·.1)) ms.length) || !bndB (wlist ws (ms.map (·.2)) ms.length) then (([], []), 9)
      else if !validB (wlist ws (ms.map (·.1)) ms.length) (wlist ws (ms.map (·.2)) ms.length) then (([], []), 10) else ((wlist ws (ms.map (·.1)) ms.length, wlist ws (ms.map (·.2)) ms.length), 0) := by
  unfold combV
  rw [if_neg (by rw [Bool.not_eq_true', Bool.not_eq_false, List.all_eq_true]; exact h), if_neg (by simpa using hl), if_neg (by rw [Bool.not_eq_true', Bool.not_eq_false, List.all_eq_true]; exact hw)]
end
theorem validB_bnd {b f : List Int} (h : validB b f = true) : bndB b = true ∧ bndB f = true := by
  simp only [validB, Bool.and_eq_true] at h
  exact ⟨h.1.1.1.1.1.1, h.1.1.1.1.1.2⟩
theorem bndB_at {l : List Int} (h : bndB l = true) (i : Nat) : -1000 ≤ l.getD i 0 ∧ l.getD i 0 ≤ 1000 := by
  simp only [bndB, Bool.and_eq_true, List.all_eq_true] at h
  rw [List.getD_eq_getElem?_getD]
  cases hi : l[i]? with
  | none => simp
  | some x => exact inB_of (h.2 x (List.mem_of_getElem? hi))
theorem inB_at {ws : List Int} (h : ∀ x ∈ ws, inB x = true) (i : Nat) : -1000 ≤ ws.getD i 0 ∧ ws.getD i 0 ≤ 1000 := by
  rw [List.getD_eq_getElem?_getD]
  cases hi : ws[i]? with
  | none => simp
  | some x => exact inB_of (h x (List.mem_of_getElem? hi))
theorem lists_at {bs : List (List Int)} (h : ∀ b ∈ bs, bndB b = true) (s i : Nat) : -1000 ≤ (bs.getD i []).getD s 0 ∧ (bs.getD i []).getD s 0 ≤ 1000 := by
  rw [List.getD_eq_getElem?_getD (l := bs)]
  cases hi : bs[i]? with
  | none => simp
  | some x => exact bndB_at (h x (List.mem_of_getElem? hi)) s
end Go.Proofs.Ytnaeabkknmoaeaa
