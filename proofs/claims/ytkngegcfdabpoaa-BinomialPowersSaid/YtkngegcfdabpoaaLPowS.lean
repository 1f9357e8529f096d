/-
  Changes of the basis: sizes; plain laws, no program in sight.
-/
import Derived.Test.YtkngegcfdabpoaaLPow
namespace Go.Proofs.Ytkngegcfdabpoaa

theorem LB.divI {D e : Nat} {q : Rat} (h : LB D e q) (k : Nat) : LB (D * (k + 1)) e (q / (((k : Int) + 1 : Int) : Rat)) := by
  obtain ⟨hD, a, h1, h2⟩ := h
  refine ⟨Nat.mul_ne_zero hD (by omega), a, ?_, h2⟩
  have e2 : (((k : Int) + 1 : Int) : Rat) = (k : Rat) + 1 := by rw [Rat.intCast_add, Rat.intCast_natCast]; rfl
  have h3 := cast_succ_ne k
  rw [e2, Rat.natCast_mul, cast_succ, ← h1, Rat.div_def]
  grind
theorem LB.mulS {D e : Nat} {q : Rat} (h : LB D e q) (k : Nat) : LB (D * (k + 1)) e (q * (((1 : Int) : Rat) / (((k : Int) + 1 : Int) : Rat))) := by
  have h' := h.divI k
  rw [Rat.div_def] at h' ⊢
  rw [show ((1 : Int) : Rat) = 1 from rfl, Rat.one_mul]
  exact h'
theorem le9 {n : Nat} (h : n ≤ 1000) : n ≤ 1000000000 ^ 1 := by omega
theorem pwR_lb (ps : List Rat) {D e : Nat} (h : ∀ i, LB D e (ps.getD i 0)) (hN : ps.length ≤ 64) : ∀ r, r ≤ 64 → ∃ M, M ≠ 0 ∧ M ≤ 1000000000 ^ r ∧ ∀ i, LB (D * M) (e + 4 * r) (pwR ps r i) := by
  have hD := (h 0).1
  intro r
  induction r with
  | zero => intro _; exact ⟨1, by omega, by simp, fun i => LB.zero (by rw [Nat.mul_one]; exact hD)⟩
  | succ r ih =>
    intro hr
    obtain ⟨M, hM, hM2, hc⟩ := ih (by omega)
    obtain ⟨k, hk⟩ : ∃ k, k = ps.length - 1 - r := ⟨_, rfl⟩
    have hk64 : k ≤ 64 := by omega
    have hM3 : M * (k + 1) ≤ 1000000000 ^ (r + 1) := by rw [Nat.pow_succ]; exact Nat.mul_le_mul hM2 (by omega)
    refine ⟨M * (k + 1), Nat.mul_ne_zero hM (by omega), hM3, fun i => ?_⟩
    rw [pwR_succ, ← hk, pstep, ← Nat.mul_assoc]
    have a1 : LB (D * M) (e + 4 * r + 1) (if i = 0 then 0 else pwR ps r (i - 1)) := by
      split
      · exact LB.zero (Nat.mul_ne_zero hD hM)
      · exact (hc (i - 1)).more (by omega)
    have a2 : LB (D * M) (e + 4 * r + 1) (pwR ps r i * ((-(k : Int) : Int) : Rat)) := (hc i).mulInt (f := 1) (by omega)
    have a3 := (a1.add a2).mulS k
    have a4 : LB (D * M * (k + 1)) (e + 4 * r + 1 + 1) (if i = 0 then ps.getD k 0 else 0) := by
      split
      · have := (h k).up (Nat.mul_ne_zero hM (show k + 1 ≠ 0 by omega)) hM3
        rw [← Nat.mul_assoc] at this
        exact this.more (by omega)
      · exact LB.zero (Nat.mul_ne_zero (Nat.mul_ne_zero hD hM) (by omega))
    exact (a3.add a4).more (by omega)
def pB (B : Nat) : Nat := 66 * B + 600
theorem qs_pwR (ps : List Rat) (B : Nat) (h : ∀ q ∈ ps, qs q ≤ B) (hl : ps.length ≤ 64) (r i : Nat) (hr : r ≤ 64) : qs (pwR ps r i) ≤ pB B := by
  obtain ⟨D, h1, h2, h3⟩ := LB.list B ps h
  obtain ⟨M, hM, hM2, hc⟩ := pwR_lb ps (fun i => LB.getD h1 h3 i) hl r hr
  have h5 : B * ps.length ≤ B * 64 := Nat.mul_le_mul_left _ hl
  have h6 : ln M ≤ r + 1 := by
    rw [ln_le]
    exact Nat.lt_of_le_of_lt hM2 (Nat.pow_lt_pow_right (by omega) (by omega))
  have h7 := ln_mul D M
  have h4 := (hc i).qs (d := B * ps.length + 1 + (r + 1)) (by omega)
  unfold pB
  omega
theorem rowC_lb : ∀ k, k ≤ 64 → ∃ M, M ≠ 0 ∧ M ≤ 1000000000 ^ k ∧ ∀ i, LB M (3 * k + 1) (rowC k i) := by
  intro k
  induction k with
  | zero =>
    intro _
    refine ⟨1, by omega, by simp, fun i => ?_⟩
    show LB 1 1 (if i = 0 then 1 else 0)
    split
    · exact LB.int (z := 1) (by decide)
    · exact LB.zero (by omega)
  | succ k ih =>
    intro hk
    obtain ⟨M, hM, hM2, hc⟩ := ih (by omega)
    refine ⟨M * (k + 1), Nat.mul_ne_zero hM (by omega), by rw [Nat.pow_succ]; exact Nat.mul_le_mul hM2 (by omega), fun i => ?_⟩
    rw [rowC_succ]
    have a1 : LB (M * (k + 1)) (3 * k + 1 + 1) (if i = 0 then 0 else rowC k (i - 1) / (((k : Int) + 1 : Int) : Rat)) := by
      split
      · exact LB.zero (Nat.mul_ne_zero hM (by omega))
      · exact ((hc (i - 1)).divI k).more (by omega)
    have a2 : LB (M * (k + 1)) (3 * k + 1 + 1) (rowC k i / (((k : Int) + 1 : Int) : Rat) * (((k : Nat) : Int) : Rat)) := ((hc i).divI k).mulInt (f := 1) (by omega)
    exact (a1.sub a2).more (by omega)
theorem qs_rowC (k i : Nat) (hk : k ≤ 64) : qs (rowC k i) ≤ 300 := by
  obtain ⟨M, hM, hM2, hc⟩ := rowC_lb k hk
  have h6 : ln M ≤ k + 1 := by
    rw [ln_le]
    exact Nat.lt_of_le_of_lt hM2 (Nat.pow_lt_pow_right (by omega) (by omega))
  have h4 := (hc i).qs h6
  omega
theorem qs_oC (ps : List Rat) (B : Nat) (h : ∀ q ∈ ps, qs q ≤ B) (hB : 3 ≤ B) (K i : Nat) (hK : K ≤ 64) : qs (oC ps K i) ≤ K * (B + 301) + 3 :=
  qs_sm K _ (B + 300) fun k hk => by
    have a1 := qs_mul (ps.getD k 0) (rowC k i)
    have a2 := qs_getD h hB k
    have a3 := qs_rowC k i (by omega)
    omega
theorem fpR_lb (ps : List Rat) {D e : Nat} (h : ∀ i, LB D e (ps.getD i 0)) : ∀ r, r ≤ 64 → ∀ i, LB D (e + 4 * r) (fpR ps r i) := by
  have hD := (h 0).1
  intro r
  induction r with
  | zero => intro _ i; exact LB.zero hD
  | succ r ih =>
    intro hr i
    by_cases hi : r + 1 ≤ i
    · rw [fpR_zero ps (r + 1) i hi]; exact LB.zero hD
    · rw [fpR_succ, fstep]
      have a1 : LB D (e + 4 * r + 1) (if i = 0 then 0 else fpR ps r (i - 1) * (((i : Nat) : Int) : Rat)) := by
        split
        · exact LB.zero hD
        · exact (ih (by omega) (i - 1)).mulInt (f := 1) (by omega)
      have a2 : LB D (e + 4 * r + 1) (fpR ps r i * (((i : Nat) : Int) : Rat)) := (ih (by omega) i).mulInt (f := 1) (by omega)
      have a3 : LB D (e + 4 * r + 1 + 1) (if i = 0 then ps.getD (ps.length - 1 - r) 0 else 0) := by
        split
        · exact (h _).more (by omega)
        · exact LB.zero hD
      exact ((a1.add a2).add a3).more (by omega)
theorem qs_fpR (ps : List Rat) (B : Nat) (h : ∀ q ∈ ps, qs q ≤ B) (hl : ps.length ≤ 64) (r i : Nat) (hr : r ≤ 64) : qs (fpR ps r i) ≤ pB B := by
  obtain ⟨D, h1, h2, h3⟩ := LB.list B ps h
  have h5 : B * ps.length ≤ B * 64 := Nat.mul_le_mul_left _ hl
  have h4 := (fpR_lb ps (fun i => LB.getD h1 h3 i) r hr i).qs h2
  unfold pB
  omega
/-- What Powers and FromPowers answer. -/
def powB (ps : List Rat) : Bool := decide (ps.length ≤ 33)
def powV (ps : List Rat) : List Rat := if ps.length ≤ 33 then cutL (powL ps) else []
def fpV (ps : List Rat) : List Rat := if ps.length ≤ 33 then cutL (fpL ps) else []
theorem pow_no {ps : List Rat} (h : ¬ ps.length ≤ 33) : powV ps = [] ∧ powB ps = false := by unfold powV powB; rw [if_neg h]; exact ⟨rfl, by simpa using h⟩
theorem pow_yes {ps : List Rat} (h : ps.length ≤ 33) : powV ps = cutL (powL ps) ∧ powB ps = true := by unfold powV powB; rw [if_pos h]; exact ⟨rfl, by simpa using h⟩
theorem fp_no {ps : List Rat} (h : ¬ ps.length ≤ 33) : fpV ps = [] ∧ powB ps = false := by unfold fpV powB; rw [if_neg h]; exact ⟨rfl, by simpa using h⟩
theorem fp_yes {ps : List Rat} (h : ps.length ≤ 33) : fpV ps = cutL (fpL ps) ∧ powB ps = true := by unfold fpV powB; rw [if_pos h]; exact ⟨rfl, by simpa using h⟩
theorem powV_mem {ps : List Rat} {B : Nat} (h : ∀ q ∈ ps, qs q ≤ B) : ∀ q ∈ powV ps, qs q ≤ pB B := fun q hq => by
  unfold powV at hq
  split at hq
  · refine cutL_mem (fun q hq => ?_) (by unfold pB; omega) q hq
    simp only [powL, List.mem_map] at hq
    obtain ⟨i, _, rfl⟩ := hq
    exact qs_pwR ps B h (by omega) _ i (by omega)
  · simp at hq
theorem fpV_mem {ps : List Rat} {B : Nat} (h : ∀ q ∈ ps, qs q ≤ B) : ∀ q ∈ fpV ps, qs q ≤ pB B := fun q hq => by
  unfold fpV at hq
  split at hq
  · refine cutL_mem (fun q hq => ?_) (by unfold pB; omega) q hq
    simp only [fpL, List.mem_map] at hq
    obtain ⟨i, _, rfl⟩ := hq
    exact qs_fpR ps B h (by omega) _ i (by omega)
  · simp at hq
theorem powV_len (ps : List Rat) : (powV ps).length ≤ ps.length := by
  unfold powV
  split
  · have := cutL_len (powL ps); rw [powL_len] at this; exact this
  · simp
theorem fpV_len (ps : List Rat) : (fpV ps).length ≤ ps.length := by
  unfold fpV
  split
  · have := cutL_len (fpL ps); rw [fpL_len] at this; exact this
  · simp
/-- The values of the polynomial with the coefficients ps of the powers. -/
def pwVals (ps : List Rat) (k : Nat) : List Rat := (List.range k).map (fun n => pwr ps.length (fun i => ps.getD i 0) ((n : Nat) : Rat))
theorem pwVals_len (ps : List Rat) (k : Nat) : (pwVals ps k).length = k := by simp [pwVals]
theorem pwVals_snoc (ps : List Rat) (k : Nat) : pwVals ps (k + 1) = pwVals ps k ++ [pwr ps.length (fun i => ps.getD i 0) (k : Rat)] := by simp [pwVals, List.range_succ]
theorem pwVals_cut (ps : List Rat) : cutL (newton (pwVals ps ps.length).length (fun i => (pwVals ps ps.length).getD i 0)) = cutL (fpL ps) := by
  apply cutL_ext
  intro k
  by_cases hk : k < (pwVals ps ps.length).length
  · refine newton_of _ (fun k => (fpL ps).getD k 0) _ (fun i hi => ?_) k hk
    rw [pwVals_len] at hi
    rw [show (pwVals ps ps.length).getD i 0 = pwr ps.length (fun i => ps.getD i 0) (i : Rat) from by rw [pwVals, range_getD, if_pos hi], ← fpL_pat]
    exact pat_more _ _ (by rw [fpL_len, pwVals_len]; exact Nat.le_refl _)
  · rw [newton_getD, if_neg hk, getD_len (by rw [fpL_len]; rw [pwVals_len] at hk; omega)]
theorem qs_powN (n k : Nat) (hn : n ≤ 64) : qs ((n : Rat) ^ k) ≤ k + 1 := by
  rw [← Rat.natCast_pow]
  exact qs_nat (Nat.pow_le_pow_left (by omega) k)
theorem qs_pwrK (ps : List Rat) (B : Nat) (h : ∀ q ∈ ps, qs q ≤ B) (hB : 3 ≤ B) (n K : Nat) (hn : n ≤ 64) (hK : K ≤ 64) : qs (sm K (fun i => ps.getD i 0 * (n : Rat) ^ i)) ≤ K * (B + 66) + 3 :=
  qs_sm K _ (B + 65) fun i hi => by
    have a1 := qs_mul (ps.getD i 0) ((n : Rat) ^ i)
    have a2 := qs_getD h hB i
    have a3 := qs_powN n i hn
    omega
theorem pwVals_mem {ps : List Rat} {B : Nat} (h : ∀ q ∈ ps, qs q ≤ B) (hB : 3 ≤ B) (hl : ps.length ≤ 64) {k : Nat} (hk : k ≤ 64) : ∀ q ∈ pwVals ps k, qs q ≤ 64 * (B + 66) + 3 := fun q hq => by
  simp only [pwVals, List.mem_map, List.mem_range] at hq
  obtain ⟨n, hn, rfl⟩ := hq
  exact Nat.le_trans (qs_pwrK ps B h hB n ps.length (by omega) hl) (Nat.add_le_add_right (Nat.mul_le_mul_right _ hl) _)
end Go.Proofs.Ytkngegcfdabpoaa
