/-
  Plain laws on combined metrics: no walk in sight.
-/
import Derived.Test.YtnaeabkknmoaeaaMKeep
namespace Go.Proofs.Ytnaeabkknmoaeaa

/-- The sum of the first k products of a weight and an element. -/
def wsum (ws : List Int) (bs : List (List Int)) (s : Nat) : Nat → Int
  | 0 => 0
  | k + 1 => wsum ws bs s k + ws.getD k 0 * (bs.getD k []).getD s 0
def wlist (ws : List Int) (bs : List (List Int)) (k : Nat) : List Int := (List.range 26).map fun s => wsum ws bs s k
/-- In the middle of a round: the first s elements are done. -/
def mix (ws : List Int) (bs : List (List Int)) (k s : Nat) : List Int := (List.range 26).map fun t => if t < s then wsum ws bs t (k + 1) else wsum ws bs t k
theorem mix_zero (ws : List Int) (bs : List (List Int)) (k : Nat) : mix ws bs k 0 = wlist ws bs k := by simp [mix, wlist]
theorem mix_end (ws : List Int) (bs : List (List Int)) (k : Nat) : mix ws bs k 26 = wlist ws bs (k + 1) := by
  simp only [mix, wlist]
  apply List.map_congr_left
  intro t ht
  rw [if_pos (by simpa using ht)]
theorem wlist_zero (ws : List Int) (bs : List (List Int)) : wlist ws bs 0 = List.replicate 26 0 := by
  simp [wlist, wsum, List.map_const']
theorem mix_len (ws : List Int) (bs : List (List Int)) (k s : Nat) : (mix ws bs k s).length = 26 := by simp [mix]
theorem mix_at (ws : List Int) (bs : List (List Int)) (k s : Nat) (hs : s < 26) : (mix ws bs k s)[s]'(by rw [mix_len]; exact hs) = wsum ws bs s k := by simp [mix]
theorem mix_set (ws : List Int) (bs : List (List Int)) (k s : Nat) (hs : s < 26) : mix ws bs k (s + 1) = (mix ws bs k s).set s (wsum ws bs s k + ws.getD k 0 * (bs.getD k []).getD s 0) := by
  apply List.ext_getElem
  · simp [mix]
  · intro t h1 h2
    simp only [mix, List.getElem_map, List.getElem_range, List.getElem_set]
    by_cases e : s = t
    · subst e
      simp [wsum]
    · rw [if_neg e]
      by_cases h : t < s
      · rw [if_pos h, if_pos (by omega)]
      · rw [if_neg h, if_neg (by omega)]
theorem prod_bd {x y : Int} (h1 : -1000 ≤ x) (h2 : x ≤ 1000) (h3 : -1000 ≤ y) (h4 : y ≤ 1000) : -1000000 ≤ x * y ∧ x * y ≤ 1000000 := by
  have a1 : x.natAbs * y.natAbs ≤ 1000 * 1000 := Nat.mul_le_mul (by omega) (by omega)
  have a2 : (x * y).natAbs = x.natAbs * y.natAbs := Int.natAbs_mul x y
  omega
theorem wsum_bd (ws : List Int) (bs : List (List Int)) (s : Nat) (hw : ∀ i, -1000 ≤ ws.getD i 0 ∧ ws.getD i 0 ≤ 1000) (hb : ∀ i, -1000 ≤ (bs.getD i []).getD s 0 ∧ (bs.getD i []).getD s 0 ≤ 1000) :
    ∀ k : Nat, -(1000000 * (k : Int)) ≤ wsum ws bs s k ∧ wsum ws bs s k ≤ 1000000 * (k : Int) := by
  intro k
  induction k with
  | zero => simp [wsum]
  | succ k ih =>
    have := prod_bd (hw k).1 (hw k).2 (hb k).1 (hb k).2
    simp only [wsum]
    omega

/-- What Combine returns: the lists and the error's number. -/
def combV (ms : List (List Int × List Int)) (ws : List Int) : (List Int × List Int) × Int :=
  if !(ms.all fun m => validB m.1 m.2) then (([], []), 10)
  else if ms.length ≠ ws.length then (([], []), 8)
  else if !(ws.all inB) then (([], []), 8)
  else
    let b := wlist ws (ms.map (·.1)) ms.length
    let f := wlist ws (ms.map (·.2)) ms.length
    if !bndB b || !bndB f then (([], []), 9) else if !validB b f then (([], []), 10) else ((b, f), 0)
end Go.Proofs.Ytnaeabkknmoaeaa
