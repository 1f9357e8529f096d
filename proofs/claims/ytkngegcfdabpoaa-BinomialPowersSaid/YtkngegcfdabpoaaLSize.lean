/-
  Sizes of sums of rational numbers, and of the values that the laws reckon: plain laws, no program in sight.
-/
import Derived.Test.YtkngegcfdabpoaaPolys
import Derived.Test.YtkngegcfdabpoaaSizes
import Derived.Test.YtkngegcfdabpoaaBFall
namespace Go.Proofs.Ytkngegcfdabpoaa

theorem qs_zero : qs 0 ≤ 3 := qs_int 0 (by omega) (by omega)
theorem qs_one : qs 1 ≤ 3 := qs_int 1 (by omega) (by omega)
theorem qs_sm (n : Nat) (f : Nat → Rat) (B : Nat) (h : ∀ i, i < n → qs (f i) ≤ B) : qs (sm n f) ≤ n * (B + 1) + 3 := by
  induction n with
  | zero => rw [sm_zero]; have := qs_zero; omega
  | succ n ih =>
    rw [sm_succ]
    have h1 := qs_add (sm n f) (f n)
    have h2 := ih (fun i hi => h i (by omega))
    have h3 := h n (by omega)
    rw [Nat.succ_mul]
    omega
theorem qs_getD {ps : List Rat} {B : Nat} (h : ∀ q ∈ ps, qs q ≤ B) (hB : 3 ≤ B) (i : Nat) : qs (ps.getD i 0) ≤ B := by
  by_cases hi : i < ps.length
  · have := h ps[i] (List.getElem_mem hi)
    simpa [hi] using this
  · rw [getD_len (by omega)]; exact Nat.le_trans qs_zero hB
/-- A term of the value of a list. -/
theorem qs_term (ps : List Rat) (B : Nat) (h : ∀ q ∈ ps, qs q ≤ B) (hB : 3 ≤ B) (n : Int) (h1 : -4611686018427387904 ≤ n) (h2 : n ≤ 9223372036854775807) (k : Nat) (hk : k ≤ 64) : qs (ps.getD k 0 * bc (n : Rat) k) ≤ B + 387 := by
  have a1 := qs_mul (ps.getD k 0) (bc (n : Rat) k)
  have a2 := qs_getD h hB k
  have a3 := qs_bc n h1 h2 k hk
  omega
/-- The value of a list at an integer, and its parts. -/
theorem qs_part (ps : List Rat) (B : Nat) (h : ∀ q ∈ ps, qs q ≤ B) (hB : 3 ≤ B) (n : Int) (h1 : -4611686018427387904 ≤ n) (h2 : n ≤ 9223372036854775807) (k : Nat) (hk : k ≤ 64) : qs (sm k (fun i => ps.getD i 0 * bc (n : Rat) i)) ≤ k * (B + 388) + 3 :=
  qs_sm k _ (B + 387) fun i hi => qs_term ps B h hB n h1 h2 i (by omega)
theorem qs_pat (ps : List Rat) (B : Nat) (h : ∀ q ∈ ps, qs q ≤ B) (hB : 3 ≤ B) (n : Int) (h1 : -4611686018427387904 ≤ n) (h2 : n ≤ 9223372036854775807) (hk : ps.length ≤ 64) : qs (pat ps (n : Rat)) ≤ 64 * (B + 388) + 3 :=
  Nat.le_trans (qs_part ps B h hB n h1 h2 ps.length hk) (Nat.add_le_add_right (Nat.mul_le_mul_right _ hk) _)
theorem cutL_mem {ps : List Rat} {B : Nat} (h : ∀ q ∈ ps, qs q ≤ B) (hB : 3 ≤ B) : ∀ q ∈ cutL ps, qs q ≤ B := fun q hq => by
  obtain ⟨i, hi, rfl⟩ := List.getElem_of_mem hq
  have := cutL_getD ps i
  have e : (cutL ps).getD i 0 = (cutL ps)[i] := by simp [hi]
  rw [← e, this]
  exact qs_getD h hB i
/-- The factorials. -/
theorem fac_pos (n : Nat) : 0 < fac n := by
  induction n with
  | zero => decide
  | succ n ih => rw [fac]; exact Nat.mul_pos ih (by omega)
theorem qs_nat {n e : Nat} (h : n ≤ 1000000000 ^ e) : qs (n : Rat) ≤ e + 1 := by
  rw [← Rat.intCast_natCast, ← fq_int]
  refine qs_fq ?_ (by rw [ln_one']; omega) (by omega)
  rw [ln_le, Nat.pow_succ]
  have := pow_pos9 e
  omega
theorem fac_le (n : Nat) (h : n ≤ 1000) : fac n ≤ 1000000000 ^ n := by
  induction n with
  | zero => decide
  | succ n ih =>
    rw [fac, Nat.pow_succ]
    exact Nat.mul_le_mul (ih (by omega)) (by omega)
theorem qs_fac (n : Nat) (h : n ≤ 1000) : qs (fac n : Rat) ≤ n + 1 := qs_nat (fac_le n h)
theorem qs_pc (a b k : Nat) (ha : a ≤ 64) (hb : b ≤ 64) (hk : k ≤ 1000) : qs (pc a b k) ≤ 780 := by
  unfold pc
  split
  · rename_i h
    have a1 := qs_mul (bc (k : Rat) a) (bc (a : Rat) (k - b))
    have a2 := qs_bc (k : Int) (by omega) (by omega) a ha
    have a3 := qs_bc (a : Int) (by omega) (by omega) (k - b) (by omega)
    rw [Rat.intCast_natCast] at a2 a3
    omega
  · have := qs_zero; omega
end Go.Proofs.Ytkngegcfdabpoaa
