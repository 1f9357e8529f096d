/-
  One limb of a long division: plain laws, no program in sight.
-/
import Derived.Test.YtoedmnalnpmleaaLimbs
namespace Go.Proofs.Ytoedmnalnpmleaa

/-- What is known of a divisor V and a dividend U by their leading limbs; E is B^(n-2). -/
structure Lead (U V h t s u2 E : Nat) : Prop where
  e1 : 1 ≤ E
  v1 : (t * 1000000000 + s) * E ≤ V
  v2 : V < (t * 1000000000 + s + 1) * E
  u1 : (h * 1000000000 + u2) * E ≤ U
  u3 : U < (h * 1000000000 + u2 + 1) * E
  s9 : s < 1000000000
  u9 : u2 < 1000000000
  t1 : 1 ≤ t
  uv : U < V * 1000000000

section
variable {U V h t s u2 E : Nat}
theorem Lead.vpos (L : Lead U V h t s u2 E) : 1000000000 * E ≤ V := by
  have h1 : 1000000000 * E ≤ (t * 1000000000 + s) * E := Nat.mul_le_mul_right _ (by have := L.t1; omega)
  exact Nat.le_trans h1 L.v1
/-- the head is below (t + 1) B -/
theorem Lead.head (L : Lead U V h t s u2 E) : h < (t + 1) * 1000000000 := by
  rcases Nat.lt_or_ge h ((t + 1) * 1000000000) with h1 | h1
  · exact h1
  · exfalso
    have b1 : t * 1000000000 + s + 1 ≤ (t + 1) * 1000000000 := by have := L.s9; omega
    have a1 : ((t + 1) * 1000000000) * (1000000000 * E) ≤ h * (1000000000 * E) := Nat.mul_le_mul_right _ h1
    have a2 : h * (1000000000 * E) ≤ U := by
      refine Nat.le_trans ?_ L.u1
      rw [← Nat.mul_assoc]
      exact Nat.mul_le_mul_right _ (Nat.le_add_right _ _)
    have a3 : V * 1000000000 ≤ (t * 1000000000 + s + 1) * E * 1000000000 := Nat.mul_le_mul_right _ (Nat.le_of_lt L.v2)
    have a4 : (t * 1000000000 + s + 1) * E * 1000000000 ≤ ((t + 1) * 1000000000) * E * 1000000000 := Nat.mul_le_mul_right _ (Nat.mul_le_mul_right _ b1)
    have a5 : ((t + 1) * 1000000000) * (1000000000 * E) = ((t + 1) * 1000000000) * E * 1000000000 := by rw [Nat.mul_comm 1000000000 E, ← Nat.mul_assoc]
    exact Nat.lt_irrefl _ (Nat.lt_of_le_of_lt (Nat.le_trans (Nat.le_of_eq a5.symm) (Nat.le_trans a1 a2)) (Nat.lt_of_lt_of_le L.uv (Nat.le_trans a3 a4)))
theorem Lead.first (L : Lead U V h t s u2 E) {q : Nat} (hq : q * V ≤ U) : q ≤ h / t := by
  rw [Nat.le_div_iff_mul_le L.t1]
  rcases Nat.lt_or_ge h (q * t) with h1 | h1
  · exfalso
    have a1 : (h + 1) * (1000000000 * E) ≤ q * t * (1000000000 * E) := Nat.mul_le_mul_right _ h1
    have a2 : q * t * (1000000000 * E) ≤ q * V := by
      rw [Nat.mul_assoc]
      refine Nat.mul_le_mul_left _ (Nat.le_trans ?_ L.v1)
      rw [← Nat.mul_assoc]
      exact Nat.mul_le_mul_right _ (by omega)
    have a3 : (h * 1000000000 + u2 + 1) * E ≤ (h + 1) * (1000000000 * E) := by
      rw [← Nat.mul_assoc]
      exact Nat.mul_le_mul_right _ (by have := L.u9; omega)
    have := L.u3
    omega
  · exact h1
theorem Lead.twice (L : Lead U V h t s u2 E) {g r : Nat} (hg : g * t + r = h) : g < 2000000000 := by
  rcases Nat.lt_or_ge g 2000000000 with h1 | h1
  · exact h1
  · exfalso
    have a1 : 2000000000 * t ≤ g * t := Nat.mul_le_mul_right _ h1
    have a := L.head
    rw [Nat.add_mul] at a
    have := L.t1
    omega
/-- A guess that is too great. -/
theorem Lead.down (L : Lead U V h t s u2 E) {g r q : Nat} (hg : g * t + r = h) (hq : q * V ≤ U) (hb : 1000000000 ≤ g ∨ r * 1000000000 + u2 < g * s) : q < g := by
  rcases Nat.lt_or_ge q g with h1 | h1
  · exact h1
  · exfalso
    have hgV : g * V ≤ U := Nat.le_trans (Nat.mul_le_mul_right _ h1) hq
    rcases hb with hb | hb
    · have : 1000000000 * V ≤ g * V := Nat.mul_le_mul_right _ hb
      have := L.uv
      omega
    · have a1 : g * (t * 1000000000 + s) = g * t * 1000000000 + g * s := by rw [Nat.mul_add, Nat.mul_assoc]
      have a2 : h * 1000000000 + u2 + 1 ≤ g * (t * 1000000000 + s) := by
        rw [a1, ← hg]
        omega
      have a3 : (h * 1000000000 + u2 + 1) * E ≤ g * (t * 1000000000 + s) * E := Nat.mul_le_mul_right _ a2
      have a4 : g * (t * 1000000000 + s) * E ≤ g * V := by
        rw [Nat.mul_assoc]
        exact Nat.mul_le_mul_left _ L.v1
      have := L.u3
      omega
/-- Where the loop ends the guess is at most one too great. -/
theorem Lead.stop (L : Lead U V h t s u2 E) {g r : Nat} (hg : g * t + r = h) (hb : 1000000000 ≤ r ∨ (g < 1000000000 ∧ g * s ≤ r * 1000000000 + u2)) : g < 1000000000 ∧ g * V < U + V := by
  have hgB : g < 1000000000 := by
    rcases hb with hb | hb
    · have a := L.head
      rw [Nat.add_mul] at a
      rcases Nat.lt_or_ge g 1000000000 with h1 | h1
      · exact h1
      · exfalso
        have : 1000000000 * t ≤ g * t := Nat.mul_le_mul_right _ h1
        omega
    · exact hb.1
  have hgs : g * s ≤ r * 1000000000 + u2 := by
    rcases hb with hb | hb
    · have a1 : g * s ≤ 1000000000 * 1000000000 := Nat.mul_le_mul (by omega) (by have := L.s9; omega)
      have a2 : 1000000000 * 1000000000 ≤ r * 1000000000 := Nat.mul_le_mul_right _ hb
      omega
    · exact hb.2
  refine ⟨hgB, ?_⟩
  have a1 : g * (t * 1000000000 + s) = g * t * 1000000000 + g * s := by rw [Nat.mul_add, Nat.mul_assoc]
  have a2 : g * (t * 1000000000 + s) ≤ h * 1000000000 + u2 := by rw [a1, ← hg]; omega
  have a3 : g * (t * 1000000000 + s) * E ≤ (h * 1000000000 + u2) * E := Nat.mul_le_mul_right _ a2
  have a4 : g * V ≤ g * ((t * 1000000000 + s + 1) * E) := Nat.mul_le_mul_left _ (Nat.le_of_lt L.v2)
  have a5 : g * ((t * 1000000000 + s + 1) * E) = g * (t * 1000000000 + s) * E + g * E := by
    rw [← Nat.mul_assoc, Nat.mul_add g _ 1, Nat.mul_one, Nat.add_mul]
  have a6 : g * E < 1000000000 * E := Nat.mul_lt_mul_of_pos_right hgB L.e1
  have := L.u1
  have := L.vpos
  omega
end

theorem nv_window (l : List Nat) (n : Nat) (h : l.length = n + 3) : nv l = nv (l.take (n + 1)) + 1000000000 ^ (n + 1) * (l[n + 1] + 1000000000 * l[n + 2]) := by
  rw [nv_split l (n + 1) (by omega), nv_drop l (n + 1) (by omega), nv_drop l (n + 2) (by omega), List.drop_eq_nil_of_le (by omega : l.length ≤ n + 2 + 1)]
  simp [nv]

/-- The leading limbs of a dividend of n + 3 limbs and of a divisor of n + 2. -/
theorem lead_of {us vs : List Nat} {n : Nat} (hu : us.length = n + 3) (hv : vs.length = n + 2) (hu9 : ∀ a ∈ us, a < 1000000000) (hv9 : ∀ a ∈ vs, a < 1000000000)
    (ht : vs[n + 1] ≠ 0) (hlt : nv us < nv vs * 1000000000) : Lead (nv us) (nv vs) (us[n + 2] * 1000000000 + us[n + 1]) vs[n + 1] vs[n] us[n] (1000000000 ^ n) := by
  have eu : nv us = nv (us.take n) + ((us[n + 2] * 1000000000 + us[n + 1]) * 1000000000 + us[n]) * 1000000000 ^ n := by
    rw [nv_split us n (by omega), nv_drop us n (by omega), nv_drop us (n + 1) (by omega), nv_drop us (n + 2) (by omega), List.drop_eq_nil_of_le (by omega : us.length ≤ n + 2 + 1), Nat.mul_comm (1000000000 ^ n)]
    simp only [nv]
    congr 2
    omega
  have ev : nv vs = nv (vs.take n) + (vs[n + 1] * 1000000000 + vs[n]) * 1000000000 ^ n := by
    rw [nv_split vs n (by omega), nv_drop vs n (by omega), nv_drop vs (n + 1) (by omega), List.drop_eq_nil_of_le (by omega : vs.length ≤ n + 1 + 1), Nat.mul_comm (1000000000 ^ n)]
    simp only [nv]
    congr 2
    omega
  have lu := nv_lt (us.take n) (fun a ha => hu9 a (List.mem_of_mem_take ha))
  have lv := nv_lt (vs.take n) (fun a ha => hv9 a (List.mem_of_mem_take ha))
  rw [List.length_take, Nat.min_eq_left (by omega)] at lu lv
  refine ⟨Nat.pow_pos (by omega), ?_, ?_, ?_, ?_, hv9 _ (List.getElem_mem _), hu9 _ (List.getElem_mem _), by omega, hlt⟩
  · rw [ev]; omega
  · rw [ev, Nat.add_mul _ 1 _, Nat.one_mul]; omega
  · rw [eu]; omega
  · rw [eu, Nat.add_mul _ 1 _, Nat.one_mul]; omega

/-- One step of subtracting g V: s is what is written, b' the new borrow. -/
theorem knuth_step {W P T X g a v s b b' k : Nat} (h : W + g * X = P + 1000000000 ^ k * b) (hs : s + g * v + b = a + 1000000000 * b') (_ : T = X + 1000000000 ^ k * v) :
    W + 1000000000 ^ k * s + g * (X + 1000000000 ^ k * v) = P + 1000000000 ^ k * a + 1000000000 ^ (k + 1) * b' := by
  have e1 : g * (X + 1000000000 ^ k * v) = g * X + 1000000000 ^ k * (g * v) := by rw [Nat.mul_add, Nat.mul_left_comm]
  have e2 : 1000000000 ^ k * (s + g * v + b) = 1000000000 ^ k * (a + 1000000000 * b') := by rw [hs]
  rw [Nat.mul_add, Nat.mul_add, Nat.mul_add] at e2
  rw [e1, show 1000000000 ^ (k + 1) * b' = 1000000000 ^ k * (1000000000 * b') from by rw [Nat.pow_succ, Nat.mul_assoc]]
  omega
/-- The guess was right. -/
theorem knuth_yes {U V W P g b un l E : Nat} (hP : U = P + E * un) (h : W + g * V = P + E * b) (hl : b + l = un) (hq : U / V ≤ g) (hV : 0 < V) : g = U / V ∧ W + E * l = U % V := by
  have e : E * un = E * b + E * l := by rw [← hl, Nat.mul_add]
  have h1 : g * V ≤ U := by omega
  have h2 : g ≤ U / V := (Nat.le_div_iff_mul_le hV).2 h1
  have h3 : g = U / V := by omega
  refine ⟨h3, ?_⟩
  have := Nat.div_add_mod U V
  rw [← h3, Nat.mul_comm] at this
  omega
/-- The guess was one too great. -/
theorem knuth_no {U V W W2 P g b un c E : Nat} (hP : U = P + E * un) (h : W + g * V = P + E * b) (hb : un < b) (hW : W < E) (h2 : W2 + E * c = W + V) (hW2 : W2 < E) (hgV : g * V < U + V) (hV : 0 < V) (hc : c ≤ 1) :
    g = U / V + 1 ∧ un + c = b ∧ W2 = U % V := by
  have e : E * (un + 1) ≤ E * b := Nat.mul_le_mul_left _ (by omega)
  rw [Nat.mul_add, Nat.mul_one] at e
  have h1 : U < g * V := by omega
  have h3 : U / V < g := by rw [Nat.div_lt_iff_lt_mul hV]; exact h1
  have h4 : g ≤ U / V + 1 := by
    have hg : (g - 1) * V ≤ U := by rw [Nat.sub_mul]; omega
    have := (Nat.le_div_iff_mul_le hV).2 hg
    omega
  have h5 : g = U / V + 1 := by omega
  have h6 := Nat.div_add_mod U V
  have h7 := Nat.mod_lt U hV
  have h8 : g * V = V * (U / V) + V := by rw [h5, Nat.add_mul, Nat.mul_comm]; omega
  have h9 : W2 + E * c + E * un = U % V + E * b := by omega
  have hcb : un + c = b := by
    rcases Nat.lt_trichotomy (un + c) b with hh | hh | hh
    · exfalso
      have : E * (un + c + 1) ≤ E * b := Nat.mul_le_mul_left _ (by omega)
      rw [Nat.mul_add, Nat.mul_add] at this
      omega
    · exact hh
    · omega
  refine ⟨h5, hcb, ?_⟩
  rw [← hcb, Nat.mul_add] at h9
  omega
end Go.Proofs.Ytoedmnalnpmleaa
