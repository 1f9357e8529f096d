/-
  Sizes of rational numbers over a common denominator: plain laws, no program in sight.
-/
import Derived.Test.YtkngegcfdabpoaaPC
namespace Go.Proofs.Ytkngegcfdabpoaa

/-- Times D the number is an integer of at most e limbs or so. -/
def LB (D e : Nat) (q : Rat) : Prop := D ≠ 0 ∧ ∃ a : Int, q * (D : Rat) = (a : Rat) ∧ a.natAbs ≤ 1000000000 ^ e
theorem mkRat_of {D : Nat} {q : Rat} {a : Int} (hD : D ≠ 0) (h : q * (D : Rat) = (a : Rat)) : q = fq (decide (a < 0)) a.natAbs D := by
  have hD' : (D : Rat) ≠ 0 := by simpa using hD
  have e : q = (a : Rat) / (D : Rat) := by rw [← h, Rat.mul_div_cancel hD']
  rw [e, ← Rat.mkRat_eq_div]
  unfold fq
  by_cases h0 : a < 0
  · rw [decide_eq_true h0, if_pos rfl]; congr 1; omega
  · rw [decide_eq_false h0, if_neg (by simp)]; congr 1; omega
theorem pow_pos9 (e : Nat) : 0 < 1000000000 ^ e := Nat.pow_pos (by omega)
theorem LB.qs {D e d : Nat} {q : Rat} (h : LB D e q) (hd : ln D ≤ d) : Go.Proofs.Ytkngegcfdabpoaa.qs q ≤ max (e + 1) d := by
  obtain ⟨hD, a, h1, h2⟩ := h
  rw [mkRat_of hD h1]
  refine qs_fq ?_ (by omega) (by omega)
  have : ln a.natAbs ≤ e + 1 := by
    rw [ln_le, Nat.pow_succ]
    have := pow_pos9 e
    omega
  omega
theorem LB.more {D e f : Nat} {q : Rat} (h : LB D e q) (hef : e ≤ f) : LB D f q := by
  obtain ⟨hD, a, h1, h2⟩ := h
  exact ⟨hD, a, h1, Nat.le_trans h2 (Nat.pow_le_pow_right (by omega) hef)⟩
theorem LB.zero {D e : Nat} (hD : D ≠ 0) : LB D e 0 := ⟨hD, 0, by simp, by simp⟩
theorem LB.neg {D e : Nat} {q : Rat} (h : LB D e q) : LB D e (-q) := by
  obtain ⟨hD, a, h1, h2⟩ := h
  exact ⟨hD, -a, by rw [Rat.intCast_neg, ← h1]; grind, by omega⟩
theorem LB.add {D e : Nat} {q r : Rat} (h : LB D e q) (k : LB D e r) : LB D (e + 1) (q + r) := by
  obtain ⟨hD, a, h1, h2⟩ := h
  obtain ⟨_, b, k1, k2⟩ := k
  refine ⟨hD, a + b, by rw [Rat.intCast_add, ← h1, ← k1]; grind, ?_⟩
  have := Int.natAbs_add_le a b
  rw [Nat.pow_succ]
  omega
theorem LB.sub {D e : Nat} {q r : Rat} (h : LB D e q) (k : LB D e r) : LB D (e + 1) (q - r) := by
  rw [Rat.sub_eq_add_neg]; exact h.add k.neg
theorem LB.mul {D E e f : Nat} {q r : Rat} (h : LB D e q) (k : LB E f r) : LB (D * E) (e + f) (q * r) := by
  obtain ⟨hD, a, h1, h2⟩ := h
  obtain ⟨hE, b, k1, k2⟩ := k
  refine ⟨Nat.mul_ne_zero hD hE, a * b, by rw [Rat.intCast_mul, ← h1, ← k1, Rat.natCast_mul]; grind, ?_⟩
  rw [Int.natAbs_mul, Nat.pow_add]
  exact Nat.mul_le_mul h2 k2
theorem LB.int {z : Int} {e : Nat} (h : z.natAbs ≤ 1000000000 ^ e) : LB 1 e (z : Rat) :=
  ⟨by omega, z, by rw [show ((1 : Nat) : Rat) = 1 from rfl]; grind, h⟩
theorem LB.mulInt {D e f : Nat} {q : Rat} {z : Int} (h : LB D e q) (hz : z.natAbs ≤ 1000000000 ^ f) : LB D (e + f) (q * (z : Rat)) := by
  have := h.mul (LB.int hz)
  rwa [Nat.mul_one] at this
theorem LB.up {D E e f : Nat} {q : Rat} (h : LB D e q) (hE : E ≠ 0) (hf : E ≤ 1000000000 ^ f) : LB (D * E) (e + f) q := by
  obtain ⟨hD, a, h1, h2⟩ := h
  refine ⟨Nat.mul_ne_zero hD hE, a * E, by rw [Rat.intCast_mul, ← h1, Rat.natCast_mul, Rat.intCast_natCast]; grind, ?_⟩
  rw [Int.natAbs_mul, Nat.pow_add]
  exact Nat.mul_le_mul h2 (by simpa using hf)
/-- The same over a greater denominator. -/
theorem LB.upL {D E e f : Nat} {q : Rat} (h : LB D e q) (hE : E ≠ 0) (hf : E ≤ 1000000000 ^ f) : LB (E * D) (e + f) q := by
  rw [Nat.mul_comm]; exact h.up hE hf
theorem le_pow_ln (n : Nat) : n ≤ 1000000000 ^ ln n := Nat.le_of_lt (lt_pow_ln n)
theorem LB.of (q : Rat) : LB q.den (Go.Proofs.Ytkngegcfdabpoaa.qs q) q := by
  refine ⟨q.den_nz, q.num, ?_, ?_⟩
  · have h := Rat.mkRat_self q
    rw [Rat.mkRat_eq_div] at h
    have hd : (q.den : Rat) ≠ 0 := by simpa using q.den_nz
    have e : (q.num : Rat) / (q.den : Rat) * (q.den : Rat) = (q.num : Rat) := Rat.div_mul_cancel hd
    rwa [h] at e
  · exact Nat.le_trans (le_pow_ln _) (Nat.pow_le_pow_right (by omega) (qs_num q))
theorem ln_one' : ln 1 = 1 := by rw [ln, digs_small (by omega) (by omega)]; rfl
/-- A list of numbers over one denominator. -/
theorem LB.list (B : Nat) (l : List Rat) (h : ∀ q ∈ l, Go.Proofs.Ytkngegcfdabpoaa.qs q ≤ B) : ∃ D, D ≠ 0 ∧ ln D ≤ B * l.length + 1 ∧ ∀ q ∈ l, LB D (B * l.length + B + l.length + 1) q := by
  induction l with
  | nil => exact ⟨1, by omega, by rw [ln_one']; omega, by simp⟩
  | cons a l ih =>
    obtain ⟨D, h1, h2, h3⟩ := ih fun q hq => h q (by simp [hq])
    have ha := h a (by simp)
    have hq := qs_den a
    refine ⟨a.den * D, Nat.mul_ne_zero a.den_nz h1, ?_, ?_⟩
    · have := ln_mul a.den D
      rw [List.length_cons, Nat.mul_succ]
      omega
    · intro q hm
      rw [List.length_cons, Nat.mul_succ]
      rcases List.mem_cons.1 hm with rfl | hm
      · have := (LB.of q).up h1 (le_pow_ln D)
        exact this.more (by omega)
      · have := (h3 q hm).upL a.den_nz (le_pow_ln a.den)
        exact this.more (by omega)
theorem LB.getD {D e : Nat} {l : List Rat} (hD : D ≠ 0) (h : ∀ q ∈ l, LB D e q) (i : Nat) : LB D e (l.getD i 0) := by
  by_cases hi : i < l.length
  · have := h l[i] (List.getElem_mem hi)
    simpa [hi] using this
  · have e0 : l.getD i 0 = 0 := by simp [List.getElem?_eq_none (by omega : l.length ≤ i)]
    rw [e0]; exact LB.zero hD
end Go.Proofs.Ytkngegcfdabpoaa
