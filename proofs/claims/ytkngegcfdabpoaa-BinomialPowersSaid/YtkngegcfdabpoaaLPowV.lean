/-
  The lists that the document's Powers makes, step by step: plain laws.
-/
import Derived.Test.YtkngegcfdabpoaaLPowS
namespace Go.Proofs.Ytkngegcfdabpoaa

def rwL (k : Nat) : List Rat := (List.range (k + 1)).map (rowC k)
theorem rwL_len (k : Nat) : (rwL k).length = k + 1 := by simp [rwL]
theorem rwL_getD (k i : Nat) (h : i < k + 1) : (rwL k).getD i 0 = rowC k i := by rw [rwL, range_getD, if_pos h]
theorem rwL_zero : rwL 0 = [1] := rfl
/-- The sum's list, the first j of it with one term more. -/
def outO (ps : List Rat) (N k j : Nat) : List Rat := (List.range N).map (fun i => if i < j then oC ps (k + 1) i else oC ps k i)
theorem outO_len (ps : List Rat) (N k j : Nat) : (outO ps N k j).length = N := by simp [outO]
theorem oC_next (ps : List Rat) (k i : Nat) : oC ps (k + 1) i = oC ps k i + ps.getD k 0 * rowC k i := rfl
theorem outO_start (ps : List Rat) (N : Nat) : List.replicate N 0 = outO ps N 0 0 := by
  rw [zeros_map]
  exact map_congr' fun i _ => by rw [if_neg (by omega)]; rfl
theorem outO_at (ps : List Rat) (N k j : Nat) (hj : j < N) : (outO ps N k j).getD j 0 = oC ps k j := by rw [outO, range_getD, if_pos hj, if_neg (by omega)]
theorem outO_step (ps : List Rat) (N k j : Nat) : (outO ps N k j).set j (oC ps (k + 1) j) = outO ps N k (j + 1) := by
  unfold outO
  rw [map_set]
  refine map_congr' fun i _ => ?_
  by_cases e : i = j
  · subst e; rw [if_pos rfl, if_pos (by omega)]
  · rw [if_neg e]
    by_cases h : i < j
    · rw [if_pos h, if_pos (by omega)]
    · rw [if_neg h, if_neg (by omega)]
theorem outO_next (ps : List Rat) (N k : Nat) : outO ps N k (k + 1) = outO ps N (k + 1) 0 := by
  refine map_congr' fun i _ => ?_
  rw [if_neg (by omega : ¬ i < 0)]
  by_cases h : i < k + 1
  · rw [if_pos h]
  · rw [if_neg h, oC_next, rowC_zero k i (by omega)]; grind
theorem outO_end (ps : List Rat) (N : Nat) (hN : N = ps.length) : outO ps N N 0 = powL ps := by
  rw [hN, ← powL_oC]
  exact map_congr' fun i _ => by rw [if_neg (by omega)]
/-- The next row, after j steps. -/
def nxR (k j i : Nat) : Rat := (if 1 ≤ i ∧ i ≤ j then rowC k (i - 1) / (((k : Int) + 1 : Int) : Rat) else 0) - (if i < j then rowC k i / (((k : Int) + 1 : Int) : Rat) * (((k : Nat) : Int) : Rat) else 0)
def nxRL (k j : Nat) : List Rat := (List.range (k + 2)).map (nxR k j)
theorem nxRL_len (k j : Nat) : (nxRL k j).length = k + 2 := by simp [nxRL]
theorem nxRL_getD (k j i : Nat) (h : i < k + 2) : (nxRL k j).getD i 0 = nxR k j i := by rw [nxRL, range_getD, if_pos h]
theorem nxRL_start (k : Nat) : List.replicate (k + 2) 0 = nxRL k 0 := by
  rw [zeros_map]
  exact map_congr' fun i _ => by rw [nxR, if_neg (by omega), if_neg (by omega)]; grind
theorem nxRL_up (k j : Nat) (hj : j < k + 1) (c : Rat) : (nxRL k j).getD (j + 1) 0 + c = c := by
  rw [nxRL_getD _ _ _ (by omega), nxR, if_neg (by omega), if_neg (by omega)]; grind
theorem nxRL_at (k j : Nat) (hj : j < k + 1) (c : Rat) : ((nxRL k j).set (j + 1) c).getD j 0 = nxR k j j := by
  unfold nxRL
  rw [map_set, range_getD, if_pos (by omega), if_neg (by omega)]
theorem nxRL_step (k j : Nat) : ((nxRL k j).set (j + 1) (rowC k j / (((k : Int) + 1 : Int) : Rat))).set j (nxR k j j - rowC k j / (((k : Int) + 1 : Int) : Rat) * (((k : Nat) : Int) : Rat)) = nxRL k (j + 1) := by
  unfold nxRL
  rw [map_set, map_set]
  refine map_congr' fun i _ => ?_
  by_cases e : i = j
  · subst e
    rw [if_pos rfl, nxR, nxR, if_neg (by omega : ¬ i < i), if_pos (by omega : i < i + 1)]
    by_cases h1 : 1 ≤ i
    · rw [if_pos (by omega), if_pos (by omega)]; grind
    · rw [if_neg (by omega), if_neg (by omega)]; grind
  · rw [if_neg e]
    by_cases e2 : i = j + 1
    · subst e2
      rw [if_pos rfl, nxR, if_pos (by omega), if_neg (by omega), Nat.add_sub_cancel]; grind
    · rw [if_neg e2, nxR, nxR]
      by_cases h1 : i < j
      · rw [if_pos h1, if_pos (by omega : i < j + 1)]
        by_cases h2 : 1 ≤ i
        · rw [if_pos (by omega), if_pos (by omega)]
        · rw [if_neg (by omega), if_neg (by omega)]
      · rw [if_neg h1, if_neg (by omega : ¬ i < j + 1), if_neg (by omega), if_neg (by omega)]
theorem nxRL_end (k : Nat) : nxRL k (k + 1) = rwL (k + 1) := by
  refine map_congr' fun i hi => ?_
  rw [rowC_succ, nxR]
  by_cases h0 : i = 0
  · subst h0; rw [if_neg (by omega), if_pos (by omega), if_pos rfl]
  · rw [if_pos (by omega), if_neg h0]
    by_cases h1 : i < k + 1
    · rw [if_pos h1]
    · rw [if_neg h1, rowC_zero k i (by omega), Rat.div_def, Rat.div_def]; grind
theorem qs_rdiv (k i : Nat) (hk : k ≤ 64) : qs (rowC k i / (((k : Int) + 1 : Int) : Rat)) ≤ 303 :=
  Nat.le_trans (qs_div _ _) (Nat.add_le_add (qs_rowC k i hk) (qs_int _ (by omega) (by omega)))
theorem qs_nxR (k j i : Nat) (hk : k ≤ 64) : qs (nxR k j i) ≤ 700 := by
  have a0 := qs_zero
  have a1 := qs_sub (if 1 ≤ i ∧ i ≤ j then rowC k (i - 1) / (((k : Int) + 1 : Int) : Rat) else 0) (if i < j then rowC k i / (((k : Int) + 1 : Int) : Rat) * (((k : Nat) : Int) : Rat) else 0)
  have a2 : qs (if 1 ≤ i ∧ i ≤ j then rowC k (i - 1) / (((k : Int) + 1 : Int) : Rat) else 0) ≤ 303 := by
    split
    · exact qs_rdiv k (i - 1) hk
    · omega
  have a3 : qs (if i < j then rowC k i / (((k : Int) + 1 : Int) : Rat) * (((k : Nat) : Int) : Rat) else 0) ≤ 306 := by
    split
    · have b1 := qs_mul (rowC k i / (((k : Int) + 1 : Int) : Rat)) (((k : Nat) : Int) : Rat)
      have b2 := qs_rdiv k i hk
      have b3 := qs_int ((k : Nat) : Int) (by omega) (by omega)
      omega
    · omega
  unfold nxR
  omega
theorem kint_ne (k : Nat) : decide ((((k : Int) + 1 : Int) : Rat) ≠ 0) = true := by
  rw [show (((k : Int) + 1 : Int) : Rat) = (k : Rat) + 1 from by rw [Rat.intCast_add, Rat.intCast_natCast]; rfl]
  exact decide_eq_true (cast_succ_ne k)
end Go.Proofs.Ytkngegcfdabpoaa
