/-
  The product of two lists, part by part: plain laws.
-/
import Derived.Test.YtkngegcfdabpoaaLComb
import Derived.Test.YtkngegcfdabpoaaLSize
import Derived.Test.YtkngegcfdabpoaaPolys
import Derived.Test.YtkngegcfdabpoaaLRow
namespace Go.Proofs.Ytkngegcfdabpoaa
open Go.RowKit

/-- What Mul answers. -/
def mulV (ps rs : List Rat) : List Rat := if ps.length ≤ 33 ∧ rs.length ≤ 33 then (if (cutL ps).length = 0 ∨ (cutL rs).length = 0 then [] else if (cutL ps).length + (cutL rs).length ≤ 34 then cutL (pmul (cutL ps) (cutL rs)) else []) else []
def mulB (ps rs : List Rat) : Bool := if ps.length ≤ 33 ∧ rs.length ≤ 33 then (if (cutL ps).length = 0 ∨ (cutL rs).length = 0 then true else decide ((cutL ps).length + (cutL rs).length ≤ 34)) else false
theorem mul_no {ps rs : List Rat} (h : ¬ (ps.length ≤ 33 ∧ rs.length ≤ 33)) : mulV ps rs = [] ∧ mulB ps rs = false := by
  unfold mulV mulB; rw [if_neg h, if_neg h]; exact ⟨rfl, rfl⟩
theorem mul_zero' {ps rs : List Rat} (h : ps.length ≤ 33 ∧ rs.length ≤ 33) (h0 : (cutL ps).length = 0 ∨ (cutL rs).length = 0) : mulV ps rs = [] ∧ mulB ps rs = true := by
  unfold mulV mulB; rw [if_pos h, if_pos h, if_pos h0, if_pos h0]; exact ⟨rfl, rfl⟩
theorem mul_big {ps rs : List Rat} (h : ps.length ≤ 33 ∧ rs.length ≤ 33) (h0 : ¬ ((cutL ps).length = 0 ∨ (cutL rs).length = 0)) (h1 : ¬ (cutL ps).length + (cutL rs).length ≤ 34) : mulV ps rs = [] ∧ mulB ps rs = false := by
  unfold mulV mulB; rw [if_pos h, if_pos h, if_neg h0, if_neg h0, if_neg h1]; exact ⟨rfl, by simpa using h1⟩
theorem mul_yes {ps rs : List Rat} (h : ps.length ≤ 33 ∧ rs.length ≤ 33) (h0 : ¬ ((cutL ps).length = 0 ∨ (cutL rs).length = 0)) (h1 : (cutL ps).length + (cutL rs).length ≤ 34) : mulV ps rs = cutL (pmul (cutL ps) (cutL rs)) ∧ mulB ps rs = true := by
  unfold mulV mulB; rw [if_pos h, if_pos h, if_neg h0, if_neg h0, if_pos h1]; exact ⟨rfl, by simpa using h1⟩
theorem qs_pcc (P R : List Rat) (B : Nat) (h1 : ∀ q ∈ P, qs q ≤ B) (h2 : ∀ q ∈ R, qs q ≤ B) (hB : 3 ≤ B) (i j k : Nat) (hi : i ≤ 40) (hj : j ≤ 40) : qs (P.getD i 0 * R.getD j 0 * pc i j k) ≤ 2 * B + 780 := by
  have a1 := qs_mul (P.getD i 0 * R.getD j 0) (pc i j k)
  have a2 := qs_mul (P.getD i 0) (R.getD j 0)
  have a3 := qs_getD h1 hB i
  have a4 := qs_getD h2 hB j
  have a5 : qs (pc i j k) ≤ 780 := by
    by_cases hk : k ≤ 1000
    · exact qs_pc i j k (by omega) (by omega) hk
    · rw [pc_zero (by omega)]; have := qs_zero; omega
  omega
theorem qs_pmulC (P R : List Rat) (B : Nat) (h1 : ∀ q ∈ P, qs q ≤ B) (h2 : ∀ q ∈ R, qs q ≤ B) (hB : 3 ≤ B) (hP : P.length ≤ 40) (hR : R.length ≤ 40) (k : Nat) : qs (pmulC P R k) ≤ P.length * (R.length * (2 * B + 781) + 4) + 3 :=
  qs_sm _ _ (R.length * (2 * B + 781) + 3) fun i hi => qs_sm _ _ (2 * B + 780) fun j hj => qs_pcc P R B h1 h2 hB i j k (by omega) (by omega)
theorem pmul_len (P R : List Rat) : (pmul P R).length = P.length + R.length - 1 := by simp [pmul]
theorem pmulC_zero (P R : List Rat) (k : Nat) (h : P.length + R.length - 1 ≤ k) : pmulC P R k = 0 := by
  unfold pmulC
  refine sm_none fun i hi => sm_none fun j hj => ?_
  rw [pc_zero (by omega)]; grind
theorem pmul_all (P R : List Rat) (k : Nat) : (pmul P R).getD k 0 = pmulC P R k := by
  rw [pmul_getD]
  split
  · rfl
  · exact (pmulC_zero P R k (by omega)).symm
theorem mulV_mem {ps rs : List Rat} {B : Nat} (h1 : ∀ q ∈ ps, qs q ≤ B) (h2 : ∀ q ∈ rs, qs q ≤ B) (hB : 3 ≤ B) : ∀ q ∈ mulV ps rs, qs q ≤ ps.length * (rs.length * (2 * B + 781) + 4) + 3 := fun q hq => by
  unfold mulV at hq
  split at hq
  · rename_i h33
    split at hq
    · simp at hq
    · split at hq
      · have hl1 := cutL_len ps
        have hl2 := cutL_len rs
        refine Nat.le_trans (cutL_mem (B := (cutL ps).length * ((cutL rs).length * (2 * B + 781) + 4) + 3) (fun q hq => ?_) (by omega) q hq) ?_
        · simp only [pmul, List.mem_map] at hq
          obtain ⟨k, _, rfl⟩ := hq
          exact qs_pmulC _ _ B (cutL_mem h1 hB) (cutL_mem h2 hB) hB (by omega) (by omega) k
        · exact Nat.add_le_add_right (Nat.mul_le_mul hl1 (Nat.add_le_add_right (Nat.mul_le_mul_right _ hl2) _)) _
      · simp at hq
  · simp at hq
theorem mulV_len (ps rs : List Rat) : (mulV ps rs).length ≤ 33 := by
  unfold mulV
  split
  · split
    · simp
    · split
      · have := cutL_len (pmul (cutL ps) (cutL rs)); rw [pmul_len] at this; omega
      · simp
  · simp
/-- The sum of the products before the pair a, b. -/
def mulP (P R : List Rat) (a b k : Nat) : Rat := sm a (fun i => sm R.length (fun j => P.getD i 0 * R.getD j 0 * pc i j k)) + sm b (fun j => P.getD a 0 * R.getD j 0 * pc a j k)
theorem mulP_step (P R : List Rat) (a b k : Nat) : mulP P R a (b + 1) k = mulP P R a b k + P.getD a 0 * R.getD b 0 * pc a b k := by
  unfold mulP; rw [sm_succ]; grind
theorem mulP_next (P R : List Rat) (a k : Nat) : mulP P R a R.length k = mulP P R (a + 1) 0 k := by
  unfold mulP; rw [sm_succ, sm_zero]; grind
theorem mulP_start (P R : List Rat) (k : Nat) : mulP P R 0 0 k = 0 := by unfold mulP; rw [sm_zero, sm_zero]; grind
theorem mulP_end (P R : List Rat) (k : Nat) : mulP P R P.length 0 k = pmulC P R k := by unfold mulP; rw [sm_zero, pmulC]; grind
theorem qs_mulP (P R : List Rat) (B : Nat) (h1 : ∀ q ∈ P, qs q ≤ B) (h2 : ∀ q ∈ R, qs q ≤ B) (hB : 3 ≤ B) (hB2 : B ≤ 1000) (hR : R.length ≤ 34) (a b k : Nat) (ha : a ≤ 34) (hb : b ≤ 34) : qs (mulP P R a b k) ≤ 4000000 := by
  obtain ⟨W, hW⟩ : ∃ W, W = 2 * B + 780 := ⟨_, rfl⟩
  have hpc : ∀ i j, i ≤ 40 → j ≤ 40 → qs (P.getD i 0 * R.getD j 0 * pc i j k) ≤ W := fun i j hi hj => by rw [hW]; exact qs_pcc P R B h1 h2 hB i j k hi hj
  have e0 : R.length * (W + 1) ≤ 34 * (W + 1) := Nat.mul_le_mul_right _ hR
  have e1 := qs_sm a (fun i => sm R.length (fun j => P.getD i 0 * R.getD j 0 * pc i j k)) (34 * (W + 1) + 3) fun i hi => by
    have e := qs_sm R.length (fun j => P.getD i 0 * R.getD j 0 * pc i j k) W fun j hj => hpc i j (by omega) (by omega)
    omega
  have e2 := qs_sm b (fun j => P.getD a 0 * R.getD j 0 * pc a j k) W fun j hj => hpc a j (by omega) (by omega)
  have e3 := qs_add (sm a (fun i => sm R.length (fun j => P.getD i 0 * R.getD j 0 * pc i j k))) (sm b (fun j => P.getD a 0 * R.getD j 0 * pc a j k))
  have e4 : a * (34 * (W + 1) + 3 + 1) ≤ 34 * 94600 := Nat.mul_le_mul ha (by omega)
  have e5 : b * (W + 1) ≤ 34 * 2781 := Nat.mul_le_mul hb (by omega)
  unfold mulP
  omega
theorem rowQ_getD (a b k : Nat) : (rowQ a b).getD k 0 = pc a b k := by
  unfold rowQ
  rw [range_getD]
  split
  · rfl
  · exact (pc_zero (by omega)).symm
theorem comb_mul (acc : List Rat) (a b : Nat) (z : Rat) (k : Nat) : (combL (fun x y => x + z * y) acc (rowQ a b)).getD k 0 = acc.getD k 0 + z * pc a b k := by
  by_cases hk : k < max acc.length (rowQ a b).length
  · rw [combL_getD _ _ _ _ hk, rowQ_getD]
  · rw [getD_len (by rw [combL_len]; omega), getD_len (l := acc) (by omega), ← rowQ_getD, getD_len (l := rowQ a b) (by omega)]; grind

end Go.Proofs.Ytkngegcfdabpoaa
