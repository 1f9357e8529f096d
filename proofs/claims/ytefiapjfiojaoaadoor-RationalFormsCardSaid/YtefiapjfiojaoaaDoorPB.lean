/-
  PB: Knuth, NQuot, LongDiv, NDiv, NGcd.
-/
import Derived.Test.YtefiapjfiojaoaaDoorPA
/-
  One limb of a long division: plain laws, no program in sight.
-/
namespace Go.Proofs.YtefiapjfiojaoaaDoor

/-- What is known of a divisor V and a dividend U by their leading limbs; E is B^(n-2). -/
structure Lead (U V h t s u2 E : Nat) : Prop where
  e1 : 1 ≤ E
  v1 : (t * 1000000000 + s) * E ≤ V
  v2 : V < (t * 1000000000 + s + 1) * E
  u1 : (h * 1000000000 + u2) * E ≤ U
  u3 : U < (h * 1000000000 + u2 + 1) * E
  s9 : s < 1000000000
  u9 : u2 < 1000000000
  t1 : 1 ≤ t
  uv : U < V * 1000000000

section
variable {U V h t s u2 E : Nat}
theorem Lead.vpos (L : Lead U V h t s u2 E) : 1000000000 * E ≤ V := by
  have h1 : 1000000000 * E ≤ (t * 1000000000 + s) * E := Nat.mul_le_mul_right _ (by have := L.t1; omega)
  exact Nat.le_trans h1 L.v1
/-- the head is below (t + 1) B -/
theorem Lead.head (L : Lead U V h t s u2 E) : h < (t + 1) * 1000000000 := by
  rcases Nat.lt_or_ge h ((t + 1) * 1000000000) with h1 | h1
  · exact h1
  · exfalso
    have b1 : t * 1000000000 + s + 1 ≤ (t + 1) * 1000000000 := by have := L.s9; omega
    have a1 : ((t + 1) * 1000000000) * (1000000000 * E) ≤ h * (1000000000 * E) := Nat.mul_le_mul_right _ h1
    have a2 : h * (1000000000 * E) ≤ U := by
      refine Nat.le_trans ?_ L.u1
      rw [← Nat.mul_assoc]
      exact Nat.mul_le_mul_right _ (Nat.le_add_right _ _)
    have a3 : V * 1000000000 ≤ (t * 1000000000 + s + 1) * E * 1000000000 := Nat.mul_le_mul_right _ (Nat.le_of_lt L.v2)
    have a4 : (t * 1000000000 + s + 1) * E * 1000000000 ≤ ((t + 1) * 1000000000) * E * 1000000000 := Nat.mul_le_mul_right _ (Nat.mul_le_mul_right _ b1)
    have a5 : ((t + 1) * 1000000000) * (1000000000 * E) = ((t + 1) * 1000000000) * E * 1000000000 := by rw [Nat.mul_comm 1000000000 E, ← Nat.mul_assoc]
    exact Nat.lt_irrefl _ (Nat.lt_of_le_of_lt (Nat.le_trans (Nat.le_of_eq a5.symm) (Nat.le_trans a1 a2)) (Nat.lt_of_lt_of_le L.uv (Nat.le_trans a3 a4)))
theorem Lead.first (L : Lead U V h t s u2 E) {q : Nat} (hq : q * V ≤ U) : q ≤ h / t := by
  rw [Nat.le_div_iff_mul_le L.t1]
  rcases Nat.lt_or_ge h (q * t) with h1 | h1
  · exfalso
    have a1 : (h + 1) * (1000000000 * E) ≤ q * t * (1000000000 * E) := Nat.mul_le_mul_right _ h1
    have a2 : q * t * (1000000000 * E) ≤ q * V := by
      rw [Nat.mul_assoc]
      refine Nat.mul_le_mul_left _ (Nat.le_trans ?_ L.v1)
      rw [← Nat.mul_assoc]
      exact Nat.mul_le_mul_right _ (by omega)
    have a3 : (h * 1000000000 + u2 + 1) * E ≤ (h + 1) * (1000000000 * E) := by
      rw [← Nat.mul_assoc]
      exact Nat.mul_le_mul_right _ (by have := L.u9; omega)
    have := L.u3
    omega
  · exact h1
theorem Lead.twice (L : Lead U V h t s u2 E) {g r : Nat} (hg : g * t + r = h) : g < 2000000000 := by
  rcases Nat.lt_or_ge g 2000000000 with h1 | h1
  · exact h1
  · exfalso
    have a1 : 2000000000 * t ≤ g * t := Nat.mul_le_mul_right _ h1
    have a := L.head
    rw [Nat.add_mul] at a
    have := L.t1
    omega
/-- A guess that is too great. -/
theorem Lead.down (L : Lead U V h t s u2 E) {g r q : Nat} (hg : g * t + r = h) (hq : q * V ≤ U) (hb : 1000000000 ≤ g ∨ r * 1000000000 + u2 < g * s) : q < g := by
  rcases Nat.lt_or_ge q g with h1 | h1
  · exact h1
  · exfalso
    have hgV : g * V ≤ U := Nat.le_trans (Nat.mul_le_mul_right _ h1) hq
    rcases hb with hb | hb
    · have : 1000000000 * V ≤ g * V := Nat.mul_le_mul_right _ hb
      have := L.uv
      omega
    · have a1 : g * (t * 1000000000 + s) = g * t * 1000000000 + g * s := by rw [Nat.mul_add, Nat.mul_assoc]
      have a2 : h * 1000000000 + u2 + 1 ≤ g * (t * 1000000000 + s) := by
        rw [a1, ← hg]
        omega
      have a3 : (h * 1000000000 + u2 + 1) * E ≤ g * (t * 1000000000 + s) * E := Nat.mul_le_mul_right _ a2
      have a4 : g * (t * 1000000000 + s) * E ≤ g * V := by
        rw [Nat.mul_assoc]
        exact Nat.mul_le_mul_left _ L.v1
      have := L.u3
      omega
/-- Where the loop ends the guess is at most one too great. -/
theorem Lead.stop (L : Lead U V h t s u2 E) {g r : Nat} (hg : g * t + r = h) (hb : 1000000000 ≤ r ∨ (g < 1000000000 ∧ g * s ≤ r * 1000000000 + u2)) : g < 1000000000 ∧ g * V < U + V := by
  have hgB : g < 1000000000 := by
    rcases hb with hb | hb
    · have a := L.head
      rw [Nat.add_mul] at a
      rcases Nat.lt_or_ge g 1000000000 with h1 | h1
      · exact h1
      · exfalso
        have : 1000000000 * t ≤ g * t := Nat.mul_le_mul_right _ h1
        omega
    · exact hb.1
  have hgs : g * s ≤ r * 1000000000 + u2 := by
    rcases hb with hb | hb
    · have a1 : g * s ≤ 1000000000 * 1000000000 := Nat.mul_le_mul (by omega) (by have := L.s9; omega)
      have a2 : 1000000000 * 1000000000 ≤ r * 1000000000 := Nat.mul_le_mul_right _ hb
      omega
    · exact hb.2
  refine ⟨hgB, ?_⟩
  have a1 : g * (t * 1000000000 + s) = g * t * 1000000000 + g * s := by rw [Nat.mul_add, Nat.mul_assoc]
  have a2 : g * (t * 1000000000 + s) ≤ h * 1000000000 + u2 := by rw [a1, ← hg]; omega
  have a3 : g * (t * 1000000000 + s) * E ≤ (h * 1000000000 + u2) * E := Nat.mul_le_mul_right _ a2
  have a4 : g * V ≤ g * ((t * 1000000000 + s + 1) * E) := Nat.mul_le_mul_left _ (Nat.le_of_lt L.v2)
  have a5 : g * ((t * 1000000000 + s + 1) * E) = g * (t * 1000000000 + s) * E + g * E := by
    rw [← Nat.mul_assoc, Nat.mul_add g _ 1, Nat.mul_one, Nat.add_mul]
  have a6 : g * E < 1000000000 * E := Nat.mul_lt_mul_of_pos_right hgB L.e1
  have := L.u1
  have := L.vpos
  omega
end

theorem nv_window (l : List Nat) (n : Nat) (h : l.length = n + 3) : nv l = nv (l.take (n + 1)) + 1000000000 ^ (n + 1) * (l[n + 1] + 1000000000 * l[n + 2]) := by
  rw [nv_split l (n + 1) (by omega), nv_drop l (n + 1) (by omega), nv_drop l (n + 2) (by omega), List.drop_eq_nil_of_le (by omega : l.length ≤ n + 2 + 1)]
  simp [nv]

/-- The leading limbs of a dividend of n + 3 limbs and of a divisor of n + 2. -/
theorem lead_of {us vs : List Nat} {n : Nat} (hu : us.length = n + 3) (hv : vs.length = n + 2) (hu9 : ∀ a ∈ us, a < 1000000000) (hv9 : ∀ a ∈ vs, a < 1000000000)
    (ht : vs[n + 1] ≠ 0) (hlt : nv us < nv vs * 1000000000) : Lead (nv us) (nv vs) (us[n + 2] * 1000000000 + us[n + 1]) vs[n + 1] vs[n] us[n] (1000000000 ^ n) := by
  have eu : nv us = nv (us.take n) + ((us[n + 2] * 1000000000 + us[n + 1]) * 1000000000 + us[n]) * 1000000000 ^ n := by
    rw [nv_split us n (by omega), nv_drop us n (by omega), nv_drop us (n + 1) (by omega), nv_drop us (n + 2) (by omega), List.drop_eq_nil_of_le (by omega : us.length ≤ n + 2 + 1), Nat.mul_comm (1000000000 ^ n)]
    simp only [nv]
    congr 2
    omega
  have ev : nv vs = nv (vs.take n) + (vs[n + 1] * 1000000000 + vs[n]) * 1000000000 ^ n := by
    rw [nv_split vs n (by omega), nv_drop vs n (by omega), nv_drop vs (n + 1) (by omega), List.drop_eq_nil_of_le (by omega : vs.length ≤ n + 1 + 1), Nat.mul_comm (1000000000 ^ n)]
    simp only [nv]
    congr 2
    omega
  have lu := nv_lt (us.take n) (fun a ha => hu9 a (List.mem_of_mem_take ha))
  have lv := nv_lt (vs.take n) (fun a ha => hv9 a (List.mem_of_mem_take ha))
  rw [List.length_take, Nat.min_eq_left (by omega)] at lu lv
  refine ⟨Nat.pow_pos (by omega), ?_, ?_, ?_, ?_, hv9 _ (List.getElem_mem _), hu9 _ (List.getElem_mem _), by omega, hlt⟩
  · rw [ev]; omega
  · rw [ev, Nat.add_mul _ 1 _, Nat.one_mul]; omega
  · rw [eu]; omega
  · rw [eu, Nat.add_mul _ 1 _, Nat.one_mul]; omega

/-- One step of subtracting g V: s is what is written, b' the new borrow. -/
theorem knuth_step {W P T X g a v s b b' k : Nat} (h : W + g * X = P + 1000000000 ^ k * b) (hs : s + g * v + b = a + 1000000000 * b') (_ : T = X + 1000000000 ^ k * v) :
    W + 1000000000 ^ k * s + g * (X + 1000000000 ^ k * v) = P + 1000000000 ^ k * a + 1000000000 ^ (k + 1) * b' := by
  have e1 : g * (X + 1000000000 ^ k * v) = g * X + 1000000000 ^ k * (g * v) := by rw [Nat.mul_add, Nat.mul_left_comm]
  have e2 : 1000000000 ^ k * (s + g * v + b) = 1000000000 ^ k * (a + 1000000000 * b') := by rw [hs]
  rw [Nat.mul_add, Nat.mul_add, Nat.mul_add] at e2
  rw [e1, show 1000000000 ^ (k + 1) * b' = 1000000000 ^ k * (1000000000 * b') from by rw [Nat.pow_succ, Nat.mul_assoc]]
  omega
/-- The guess was right. -/
theorem knuth_yes {U V W P g b un l E : Nat} (hP : U = P + E * un) (h : W + g * V = P + E * b) (hl : b + l = un) (hq : U / V ≤ g) (hV : 0 < V) : g = U / V ∧ W + E * l = U % V := by
  have e : E * un = E * b + E * l := by rw [← hl, Nat.mul_add]
  have h1 : g * V ≤ U := by omega
  have h2 : g ≤ U / V := (Nat.le_div_iff_mul_le hV).2 h1
  have h3 : g = U / V := by omega
  refine ⟨h3, ?_⟩
  have := Nat.div_add_mod U V
  rw [← h3, Nat.mul_comm] at this
  omega
/-- The guess was one too great. -/
theorem knuth_no {U V W W2 P g b un c E : Nat} (hP : U = P + E * un) (h : W + g * V = P + E * b) (hb : un < b) (hW : W < E) (h2 : W2 + E * c = W + V) (hW2 : W2 < E) (hgV : g * V < U + V) (hV : 0 < V) (hc : c ≤ 1) :
    g = U / V + 1 ∧ un + c = b ∧ W2 = U % V := by
  have e : E * (un + 1) ≤ E * b := Nat.mul_le_mul_left _ (by omega)
  rw [Nat.mul_add, Nat.mul_one] at e
  have h1 : U < g * V := by omega
  have h3 : U / V < g := by rw [Nat.div_lt_iff_lt_mul hV]; exact h1
  have h4 : g ≤ U / V + 1 := by
    have hg : (g - 1) * V ≤ U := by rw [Nat.sub_mul]; omega
    have := (Nat.le_div_iff_mul_le hV).2 hg
    omega
  have h5 : g = U / V + 1 := by omega
  have h6 := Nat.div_add_mod U V
  have h7 := Nat.mod_lt U hV
  have h8 : g * V = V * (U / V) + V := by rw [h5, Nat.add_mul, Nat.mul_comm]; omega
  have h9 : W2 + E * c + E * un = U % V + E * b := by omega
  have hcb : un + c = b := by
    rcases Nat.lt_trichotomy (un + c) b with hh | hh | hh
    · exfalso
      have : E * (un + c + 1) ≤ E * b := Nat.mul_le_mul_left _ (by omega)
      rw [Nat.mul_add, Nat.mul_add] at this
      omega
    · exact hh
    · omega
  refine ⟨h5, hcb, ?_⟩
  rw [← hcb, Nat.mul_add] at h9
  omega
end Go.Proofs.YtefiapjfiojaoaaDoor

/-
  The contract of rational.quotientLimb.
-/
namespace Go.Proofs.YtefiapjfiojaoaaDoor
open Go.RowKit

/-- A limb of the quotient, and the rest in the window. -/
def QL (w0 : World) (gu : Nat) (pre post : List Nat) (n q r : Nat) (e : Ending) (w' : World) : Prop :=
  e = .returned (.int .u32 q) ∧ ∃ us : List Nat, us.length = n + 3 ∧ (∀ a ∈ us, a < 1000000000) ∧ nv us = r ∧ BN w' gu (pre ++ us ++ post) ∧ w0.grownBy w' (some gu)

/-- The guess and the rest in the loop that corrects it. -/
def GRel (q h t : Nat) (gv rv : Value) : Prop := ∃ g r : Nat, gv = .int .u64 g ∧ rv = .int .u64 r ∧ g * t + r = h ∧ q ≤ g ∧ r < 2000000000
theorem grel_step {q h t g r : Nat} (hg : g * t + r = h) (hq : q < g) (hr : r < 1000000000) (ht : t < 1000000000) : GRel q h t (.int .u64 ((g : Int) - 1)) (.int .u64 ((r : Int) + t)) := by
  refine ⟨g - 1, r + t, ?_, ?_, ?_, by omega, by omega⟩
  · rw [show ((g : Int) - 1) = ((g - 1 : Nat) : Int) from by omega]
  · rw [Int.natCast_add]
  · obtain ⟨k, rfl⟩ : ∃ k, g = k + 1 := ⟨g - 1, by omega⟩
    rw [Nat.add_mul, Nat.one_mul] at hg
    rw [Nat.add_sub_cancel]
    omega

/-- The multiply-and-subtract loop: i limbs done, borrow b, window xs. -/
structure K2 (us vs : List Nat) (g n i b : Nat) (xs : List Nat) : Prop where
  il : i ≤ n + 2
  b9 : b ≤ 1000000000
  len : xs.length = n + 3
  x9 : ∀ a ∈ xs, a < 1000000000
  same : ∀ j, i ≤ j → xs.getD j 0 = us.getD j 0
  eq : nv (xs.take i) + g * nv (vs.take i) = nv (us.take i) + 1000000000 ^ i * b
theorem take_set_self (l : List Nat) (i s : Nat) : (l.set i s).take i = l.take i := by
  rw [List.take_set]
  exact List.set_eq_of_length_le (by simp; omega)
theorem getD_set_self {l : List Nat} {i : Nat} (s : Nat) (h : i < l.length) : (l.set i s).getD i 0 = s := by simp [h]
theorem getD_set_ne {l : List Nat} {i j : Nat} (s : Nat) (h : i ≠ j) : (l.set i s).getD j 0 = l.getD j 0 := by
  simp [List.getD, h]
theorem K2.start {us vs : List Nat} {g n : Nat} (hl : us.length = n + 3) (h9 : ∀ a ∈ us, a < 1000000000) : K2 us vs g n 0 0 us :=
  ⟨Nat.zero_le _, by omega, hl, h9, fun _ _ => rfl, by simp [nv]⟩
theorem K2.step {us vs xs : List Nat} {g n i b s b' a v : Nat} (h : K2 us vs g n i b xs) (hi : i < n + 2) (ha : a = us.getD i 0) (hv : v = vs.getD i 0) (hs : s < 1000000000) (hb : b' ≤ 1000000000)
    (e : s + g * v + b = a + 1000000000 * b') : K2 us vs g n (i + 1) b' (xs.set i s) := by
  have hl := h.len
  refine ⟨by omega, hb, by simp [hl], set_lt h.x9 hs, fun j hj => ?_, ?_⟩
  · rw [getD_set_ne _ (by omega)]; exact h.same j (by omega)
  · rw [nv_take' (xs.set i s) i, nv_take' vs i, nv_take' us i, take_set_self, getD_set_self _ (by omega), ← ha, ← hv]
    exact knuth_step h.eq e rfl
/-- The loop that adds the divisor back. -/
structure K3 (xs vs : List Nat) (n i c : Nat) (ys : List Nat) : Prop where
  il : i ≤ n + 2
  c1 : c ≤ 1
  len : ys.length = n + 3
  y9 : ∀ a ∈ ys, a < 1000000000
  same : ∀ j, i ≤ j → ys.getD j 0 = xs.getD j 0
  eq : nv (ys.take i) + 1000000000 ^ i * c = nv (xs.take i) + nv (vs.take i)
theorem K3.start {xs vs : List Nat} {n : Nat} (hl : xs.length = n + 3) (h9 : ∀ a ∈ xs, a < 1000000000) : K3 xs vs n 0 0 xs :=
  ⟨Nat.zero_le _, by omega, hl, h9, fun _ _ => rfl, by simp [nv]⟩
theorem K3.step {xs vs ys : List Nat} {n i c y v : Nat} (h : K3 xs vs n i c ys) (hi : i < n + 2) (hy : y = ys.getD i 0) (hv : v = vs.getD i 0) (hy9 : y < 1000000000) (hv9 : v < 1000000000) :
    K3 xs vs n (i + 1) ((y + v + c) / 1000000000) (ys.set i ((y + v + c) % 1000000000)) := by
  have hl := h.len
  have hc := h.c1
  refine ⟨by omega, by omega, by simp [hl], set_lt h.y9 (by omega), fun j hj => ?_, ?_⟩
  · rw [getD_set_ne _ (by omega)]; exact h.same j (by omega)
  · rw [nv_take' (ys.set i _) i, nv_take' vs i, nv_take' xs i, take_set_self, getD_set_self _ (by omega), ← h.same i (by omega), ← hy, ← hv]
    have h1 := h.eq
    have e : (y + v + c) % 1000000000 + 1000000000 * ((y + v + c) / 1000000000) = y + v + c := Nat.mod_add_div _ _
    have e2 : 1000000000 ^ i * ((y + v + c) % 1000000000 + 1000000000 * ((y + v + c) / 1000000000)) = 1000000000 ^ i * (y + v + c) := by rw [e]
    rw [Nat.mul_add, Nat.mul_add, Nat.mul_add] at e2
    rw [show 1000000000 ^ (i + 1) * ((y + v + c) / 1000000000) = 1000000000 ^ i * (1000000000 * ((y + v + c) / 1000000000)) from by rw [Nat.pow_succ, Nat.mul_assoc]]
    omega
theorem window_end {zs : List Nat} {n l : Nat} (hl : zs.length = n + 3) : nv (zs.set (n + 2) l) = nv (zs.take (n + 2)) + 1000000000 ^ (n + 2) * l := by
  have h : (zs.set (n + 2) l).take (n + 3) = zs.set (n + 2) l := List.take_of_length_le (by simp [hl])
  rw [← h, nv_take' _ (n + 2), take_set_self, getD_set_self _ (by omega)]
/-- Nothing to add back. -/
theorem K2.yes {us vs xs : List Nat} {g n b : Nat} (h : K2 us vs g n (n + 2) b xs) (hu : us.length = n + 3) (hv : vs.length = n + 2) (hV : 0 < nv vs) (hq : nv us / nv vs ≤ g) (hb : b ≤ us.getD (n + 2) 0) :
    g = nv us / nv vs ∧ nv (xs.set (n + 2) (us.getD (n + 2) 0 - b)) = nv us % nv vs := by
  rw [window_end h.len]
  have e := h.eq
  rw [List.take_of_length_le (by omega : vs.length ≤ n + 2)] at e
  refine knuth_yes (un := us.getD (n + 2) 0) ?_ e (by omega) hq hV
  rw [← nv_take' us (n + 2), List.take_of_length_le (by omega)]
theorem K2.no {us vs xs ys : List Nat} {g n b c : Nat} (h : K2 us vs g n (n + 2) b xs) (h3 : K3 xs vs n (n + 2) c ys) (hu : us.length = n + 3) (hv : vs.length = n + 2) (hV : 0 < nv vs) (hb : us.getD (n + 2) 0 < b) (hgV : g * nv vs < nv us + nv vs) :
    g = nv us / nv vs + 1 ∧ us.getD (n + 2) 0 + c = b ∧ nv (ys.set (n + 2) 0) = nv us % nv vs := by
  rw [window_end h3.len]
  have e := h.eq
  have e3 := h3.eq
  have hxl := h.len
  have hyl := h3.len
  rw [List.take_of_length_le (by omega : vs.length ≤ n + 2)] at e e3
  have hx := nv_lt (xs.take (n + 2)) (fun a ha => h.x9 a (List.mem_of_mem_take ha))
  have hy := nv_lt (ys.take (n + 2)) (fun a ha => h3.y9 a (List.mem_of_mem_take ha))
  rw [List.length_take, Nat.min_eq_left (by omega)] at hx hy
  have := knuth_no (un := us.getD (n + 2) 0) (by rw [← nv_take' us (n + 2), List.take_of_length_le (by omega)]) e hb hx e3 hy hgV hV h3.c1
  exact ⟨this.1, this.2.1, by rw [Nat.mul_zero, Nat.add_zero]; exact this.2.2⟩
/-- The two words of the inner loop: s + d B and c + d. -/
def S2 (s c : Int) (sv cv : Value) : Prop := ∃ d : Int, sv = .int .i64 (s + 1000000000 * d) ∧ cv = .int .i64 (c + d) ∧ 0 ≤ d ∧ d ≤ 2 ∧ (d = 0 ∨ s + 1000000000 * (d - 1) < 0)

set_option maxRecDepth 100000 in
set_option maxHeartbeats 12800000 in
theorem quotientLimb_any (gu gv n cu cv : Nat) (pre us post vs vpost : List Nat) (w : World) (hu : BN w gu (pre ++ us ++ post)) (hv : BN w gv (vs ++ vpost)) (hne : gu ≠ gv)
    (hul : us.length = n + 3) (hvl : vs.length = n + 2) (hu9 : ∀ a ∈ us, a < 1000000000) (hv9 : ∀ a ∈ vs, a < 1000000000) (ht : vs[n + 1] ≠ 0) (hlt : nv us < nv vs * 1000000000) (hn : n ≤ 17179869184) :
    Calls Tryd.prog 56 #[.slice (some ⟨gu, pre.length, none⟩) (n + 3) cu, .slice (some ⟨gv, 0, none⟩) (n + 2) cv] w (QL w gu pre post n (nv us / nv vs) (nv us % nv vs)) := by
  have L := lead_of hul hvl hu9 hv9 ht hlt
  have c0 := hu.mid (i := n) (by omega)
  have c1 := hu.mid (i := n + 1) (by omega)
  have c2 := hu.mid (i := n + 2) (by omega)
  have d0 := hv.cell (k := n) (by simp; omega)
  have d1 := hv.cell (k := n + 1) (by simp; omega)
  rw [List.getElem_append_left (by omega)] at d0 d1
  have b0 := hu9 us[n] (List.getElem_mem _)
  have b1 := hu9 us[n + 1] (List.getElem_mem _)
  have b2 := hu9 us[n + 2] (List.getElem_mem _)
  have b3 := hv9 vs[n] (List.getElem_mem _)
  have b4 := hv9 vs[n + 1] (List.getElem_mem _)
  have t1 := L.t1
  obtain ⟨u0, hu0⟩ : ∃ x, x = us[n] := ⟨_, rfl⟩
  obtain ⟨u1, hu1⟩ : ∃ x, x = us[n + 1] := ⟨_, rfl⟩
  obtain ⟨u2, hu2⟩ : ∃ x, x = us[n + 2] := ⟨_, rfl⟩
  obtain ⟨s, hs⟩ : ∃ x, x = vs[n] := ⟨_, rfl⟩
  obtain ⟨t, htt⟩ : ∃ x, x = vs[n + 1] := ⟨_, rfl⟩
  rw [← hu0, ← hu1, ← hu2, ← hs, ← htt] at L
  rw [← hu0] at c0 b0
  rw [← hu1] at c1 b1
  rw [← hu2] at c2 b2
  rw [← hs] at d0 b3
  rw [← htt] at d1 b4 t1
  have HL := Lib.hid L
  have HU2 := Lib.hid (show us.getD (n + 2) 0 = u2 from by rw [hu2]; simp [show n + 2 < us.length from by omega])
  have HU := Lib.hid hu
  have HV := Lib.hid hv
  have HUL := Lib.hid hul
  have HVL := Lib.hid hvl
  have HU9 := Lib.hid hu9
  have HV9 := Lib.hid hv9
  have HNE := Lib.hid hne
  clear L hu0 hu1 hu2 hs htt hu hv hul hvl hu9 hv9 hne ht hlt
  go_enter Tryd.func56, Tryd.ntmps56
  go_wp2_with fail
  go_quiet (fail)
  go_wp2_with fail
  go_quiet (fail)
  go_wp2_with fail
  go_quiet (fail)
  go_wp2_with fail
  go_loop [9, 10] (fun gv' rv => GRel (nv us / nv vs) (u2 * 1000000000 + u1) t gv' rv) (fun gv' _ => (intOf gv').toNat)
  case atStart =>
    refine ⟨(u2 * 1000000000 + u1) / t, (u2 * 1000000000 + u1) % t, ?_, ?_, ?_, HL.out.first (Nat.div_mul_le_self _ _), ?_⟩
    · simp
    · simp
    · rw [Nat.mul_comm]; exact Nat.div_add_mod _ _
    · have := Nat.mod_lt (u2 * 1000000000 + u1) t1; omega
  case round =>
    obtain ⟨g, r, rfl, rfl, hgr, hq, hr⟩ := hrel
    have hg2 := HL.out.twice hgr
    have HGR := Lib.hid hgr
    have HQ := Lib.hid hq
    have hgs : g * s ≤ 2000000000 * 1000000000 := Nat.mul_le_mul (by omega) (by omega)
    have hzu : (0 : Int) ≤ (g : Int) * s ∧ (g : Int) * s ≤ 2000000000000000000 := by
      rw [← Int.natCast_mul]; omega
    by_cases hb : r < 1000000000 ∧ (1000000000 ≤ g ∨ r * 1000000000 + u0 < g * s)
    · have hdn := HL.out.down hgr (Nat.div_mul_le_self _ _) hb.2
      have HDN := Lib.hid hdn
      have hg0 : 0 < g := Nat.lt_of_le_of_lt (Nat.zero_le _) hdn
      obtain ⟨hb1, hb2⟩ := hb
      have hr1 : decide ((r : Int) < 1000000000) = true := by simp; omega
      clear hgr hq hdn
      by_cases hgB : 1000000000 ≤ g
      · have hg1 : decide ((1000000000 : Int) ≤ g) = true := by simp; omega
        clear hb2
        go_wp2_with fail
        go_round
        case rel => exact grel_step HGR.out HDN.out hb1 b4
        case measure => simp [intOf]; omega
      · have hb3 : r * 1000000000 + u0 < g * s := by omega
        have hg1 : decide ((1000000000 : Int) ≤ g) = false := by simp; omega
        have hb4 : decide ((r : Int) * 1000000000 + u0 < (g : Int) * s) = true := by
          simp only [decide_eq_true_eq]; rw [← Int.natCast_mul g s]; omega
        clear hb2
        go_wp2_with fail
        go_round
        case rel => exact grel_step HGR.out HDN.out hb1 b4
        case measure => simp [intOf]; omega
    · have hst := HL.out.stop hgr (by omega)
      have HST := Lib.hid hst.2
      have hg9 := hst.1
      have hb2 : decide ((r : Int) < 1000000000) = false ∨ ((r : Int) < 1000000000 ∧ decide ((1000000000 : Int) ≤ g) = false ∧ decide ((r : Int) * 1000000000 + u0 < (g : Int) * s) = false) := by
        by_cases h1 : r < 1000000000
        · right
          refine ⟨by omega, by simp; omega, ?_⟩
          simp only [decide_eq_false_iff_not]; rw [← Int.natCast_mul g s]; omega
        · left; simp; omega
      clear hgr hq hst hb
      rcases hb2 with hb | ⟨hb, hb', hb''⟩
      all_goals
        go_wp2_with fail
        clear hgs hzu hg2
        go_loopw [11, 78] (fun bv iv wr => ∃ (i b : Nat) (xs : List Nat), bv = .int .i64 b ∧ iv = .int .i64 i ∧ Hid (K2 us vs g n i b xs) ∧ BN wr gu (pre ++ xs ++ post) ∧ w.grownBy wr (some gu)) (fun _ iv _ => n + 2 - (intOf iv).toNat)
        case atStart =>
          refine ⟨0, 0, us, rfl, rfl, Lib.hid (K2.start HUL.out HU9.out), HU.out, ?_⟩
          exact ⟨rfl, rfl, rfl, Nat.le_refl _, fun _ _ _ => rfl⟩
        case round =>
          obtain ⟨i, b, xs, rfl, rfl, HK, hB, hG⟩ := hrel
          have hb9 := HK.out.b9
          have hil := HK.out.il
          have hxl := HK.out.len
          by_cases hi : i < n + 2
          · have hix : i < xs.length := by omega
            have cu := hB.mid hix
            have fu := hB.frozen (pre.length + i)
            have cv := (HV.out.only hG (Ne.symm HNE.out)).cell (k := i) (by simp; have := HVL.out; omega)
            rw [List.getElem_append_left (by have := HVL.out; omega)] at cv
            have a9 := HK.out.x9 xs[i] (List.getElem_mem _)
            have v9 := HV9.out (vs[i]'(by have := HVL.out; omega)) (List.getElem_mem _)
            obtain ⟨a, ha⟩ : ∃ x, x = xs[i] := ⟨_, rfl⟩
            obtain ⟨v, hv⟩ : ∃ x, x = vs[i]'(by have := HVL.out; omega) := ⟨_, rfl⟩
            rw [← ha] at cu a9
            rw [← hv] at cv v9
            have HA := Lib.hid (show a = us.getD i 0 from by rw [← HK.out.same i (Nat.le_refl _), ha]; simp [hix])
            have HVV := Lib.hid (show v = vs.getD i 0 from by rw [hv]; simp [List.getD, show i < vs.length from by have := HVL.out; omega])
            have hgv : (0 : Int) ≤ (g : Int) * v ∧ (g : Int) * v ≤ 999999998000000001 := by
              have h1 : g * v ≤ 999999999 * 999999999 := Nat.mul_le_mul (by omega) (by omega)
              rw [← Int.natCast_mul]; omega
            obtain ⟨p, hp⟩ : ∃ p : Int, p = (g : Int) * v := ⟨_, rfl⟩
            have HP := Lib.hid hp
            rw [← hp] at hgv
            have HBB := Lib.hid hB
            have e1 : IntKind.u64.wrap ((g : Int) * v) = p := by rw [← hp]; exact IntWalk.u64_in _ (by omega)
            have e2 : IntKind.i64.wrap ((a : Int) - b) = (a : Int) - b := IntWalk.i64_in _ (by omega)
            have e3 : IntKind.i64.wrap ((a : Int) - b - p % 1000000000) = (a : Int) - b - p % 1000000000 := IntWalk.i64_in _ (by omega)
            have e4 : IntKind.i64.wrap (p % 1000000000) = p % 1000000000 := IntWalk.i64_in _ (by omega)
            have e5 : IntKind.u64.wrap (p % 1000000000) = p % 1000000000 := IntWalk.u64_in _ (by omega)
            have e6 : IntKind.i64.wrap (a : Int) = a := IntWalk.i64_in _ (by omega)
            have i1 : (i : Int) < (n : Int) + 3 := by omega
            have i2 : (i : Int) < (n : Int) + 2 := by omega
            clear ha hv hB hp
            go_wp2_with fail
            go_quiet (fail)
            go_wp2_with fail
            go_loop [13, 11] (fun sv cv => S2 ((a : Int) - b - p % 1000000000) (p / 1000000000) sv cv) (fun sv _ => (1000000000 - intOf sv).toNat)
            case atStart => exact ⟨0, by simp, by simp, Int.le_refl _, by decide, Or.inl rfl⟩
            case round =>
              obtain ⟨d, rfl, rfl, hd0, hd2, hd⟩ := hrel
              obtain ⟨s, hs⟩ : ∃ s : Int, s = (a : Int) - b - p % 1000000000 + 1000000000 * d := ⟨_, rfl⟩
              rw [← hs]
              have HS := Lib.hid hs
              by_cases hsn : s < 0
              · have hd1 : d ≤ 1 := by omega
                have s1 : -2000000000 ≤ s := by omega
                have hd' : (0 : Int) ≤ p / 1000000000 + d ∧ p / 1000000000 + d ≤ 2000000000 := by omega
                clear hd hs
                go_wp2_with fail
                go_round
                case rel => exact ⟨d + 1, congrArg (Value.int .i64) (by have := HS.out; omega), congrArg (Value.int .i64) (by omega), Int.add_nonneg hd0 (by decide), Int.add_le_add_right hd1 1, Or.inr (by have := HS.out; omega)⟩
                case measure => simp [intOf]; omega
              · have hs9 : s < 1000000000 := by omega
                obtain ⟨t, rfl⟩ : ∃ t : Nat, s = t := ⟨s.toNat, by omega⟩
                obtain ⟨b', hb'⟩ : ∃ b' : Nat, p / 1000000000 + d = b' := ⟨(p / 1000000000 + d).toNat, by omega⟩
                have HE := Lib.hid (show t + g * v + b = a + 1000000000 * b' from by
                  have hp' := HP.out
                  rw [← Int.natCast_mul] at hp'
                  omega)
                rw [hb']
                have hb9' : b' ≤ 1000000000 := by omega
                clear hd hs hb'
                go_wp2_with fail
                go_roundw
                case rel =>
                  exact ⟨i + 1, b', xs.set i t, rfl, by go_num, Lib.hid (HK.out.step hi HA.out HVV.out (by omega) hb9' HE.out), HBB.out.setMid i t (by omega) rfl, only_setCell (only_drewN hG _) rfl _⟩
                case measure => simp [intOf]; omega
          · have hi' : i = n + 2 := by omega
            have hlf : decide ((i : Int) < (n : Int) + 2) = false := by simp; omega
            rw [hi'] at HK
            clear hi hil hi'
            have hcl := hB.mid (i := n + 2) (by omega)
            have hfl := hB.frozen (pre.length + (n + 2))
            have hxu : xs[n + 2] = u2 := by
              have h1 := HK.out.same (n + 2) (Nat.le_refl _)
              rw [HU2.out] at h1
              rw [← h1]
              simp [show n + 2 < xs.length from by omega]
            rw [hxu] at hcl
            have HBB := Lib.hid hB
            have hgB : g < 1000000000 := hg9
            have t1' : ((n : Int) + 2).toNat = n + 2 := by omega
            have t2' : IntKind.i64.wrap ((u2 : Int) - b) = (u2 : Int) - b := IntWalk.i64_in _ (by omega)
            have HVP := Lib.hid (Nat.lt_of_lt_of_le (Nat.mul_pos (by decide : 0 < 1000000000) HL.out.e1) HL.out.vpos)
            by_cases hbu : b ≤ u2
            · have hsg : decide (b ≤ u2) = true := by simp; omega
              have HY := Lib.hid (HK.out.yes HUL.out HVL.out HVP.out HQ.out (by rw [HU2.out]; exact hbu))
              have s0 : (0 : Int) ≤ (u2 : Int) - b := by omega
              have s1 : (u2 : Int) - b < 1000000000 := by omega
              have HZ := Lib.hid (show (u2 : Int) - b = ((u2 - b : Nat) : Int) from by omega)
              clear hB hxu hbu
              go_wp2_with fail
              go_ret
              refine ⟨congrArg (fun x : Nat => Ending.returned (Value.int .u32 (x : Int))) HY.out.1, xs.set (n + 2) (u2 - b), by rw [List.length_set]; exact hxl, set_lt HK.out.x9 (by omega), ?_, HBB.out.setMid (n + 2) (u2 - b) (by omega) HZ.out, only_setCell hG rfl _⟩
              rw [← HY.out.2, HU2.out]
            · have hsg : decide (b ≤ u2) = false := by simp; omega
              have hbu' : u2 < b := by omega
              clear hB hxu hbu
              go_wp2_with fail
              go_loopw [15, 136] (fun cv' iv wr => ∃ (i c : Nat) (ys : List Nat), cv' = .int .u32 c ∧ iv = .int .i64 i ∧ Hid (K3 xs vs n i c ys) ∧ BN wr gu (pre ++ ys ++ post) ∧ w.grownBy wr (some gu)) (fun _ iv _ => n + 2 - (intOf iv).toNat)
              case atStart => exact ⟨0, 0, xs, rfl, rfl, Lib.hid (K3.start hxl HK.out.x9), HBB.out, hG⟩
              case round =>
                obtain ⟨i, c, ys, rfl, rfl, HK3, hB, hG3⟩ := hrel
                have hc1 := HK3.out.c1
                have hil3 := HK3.out.il
                have hyl := HK3.out.len
                by_cases hi : i < n + 2
                · have hix : i < ys.length := by omega
                  have cu := hB.mid hix
                  have fu := hB.frozen (pre.length + i)
                  have cv := (HV.out.only hG3 (Ne.symm HNE.out)).cell (k := i) (by simp; have := HVL.out; omega)
                  rw [List.getElem_append_left (by have := HVL.out; omega)] at cv
                  have a9 := HK3.out.y9 ys[i] (List.getElem_mem _)
                  have v9 := HV9.out (vs[i]'(by have := HVL.out; omega)) (List.getElem_mem _)
                  obtain ⟨a, ha⟩ : ∃ x, x = ys[i] := ⟨_, rfl⟩
                  obtain ⟨v, hv⟩ : ∃ x, x = vs[i]'(by have := HVL.out; omega) := ⟨_, rfl⟩
                  rw [← ha] at cu a9
                  rw [← hv] at cv v9
                  have HA := Lib.hid (show a = ys.getD i 0 from by rw [ha]; simp [hix])
                  have HVV := Lib.hid (show v = vs.getD i 0 from by rw [hv]; simp [List.getD, show i < vs.length from by have := HVL.out; omega])
                  have HB3 := Lib.hid hB
                  have i1 : (i : Int) < (n : Int) + 3 := by omega
                  have i2 : (i : Int) < (n : Int) + 2 := by omega
                  have e1 : IntKind.u32.wrap ((a : Int) + v) = (a : Int) + v := IntWalk.u32_in _ (by omega)
                  have e2 : IntKind.u32.wrap ((a : Int) + v + c) = (a : Int) + v + c := IntWalk.u32_in _ (by omega)
                  clear ha hv hB
                  go_wp2_with fail
                  go_quiet (fail)
                  go_wp2_with fail
                  go_roundw
                  case rel =>
                    exact ⟨i + 1, (a + v + c) / 1000000000, ys.set i ((a + v + c) % 1000000000), congrArg (Value.int .u32) (by omega), by go_num, Lib.hid (HK3.out.step hi HA.out HVV.out a9 v9), HB3.out.setMid i ((a + v + c) % 1000000000) (by omega) (by omega), only_setCell (only_drewN hG3 _) rfl _⟩
                  case measure => simp [intOf]; omega
                · have hi' : i = n + 2 := by omega
                  have hlf : decide ((i : Int) < (n : Int) + 2) = false := by simp; omega
                  rw [hi'] at HK3
                  clear hi hil3 hi'
                  have hcl := hB.mid (i := n + 2) (by omega)
                  have hfl := hB.frozen (pre.length + (n + 2))
                  have HN := Lib.hid (HK.out.no HK3.out HUL.out HVL.out HVP.out (by rw [HU2.out]; exact hbu') HST.out)
                  have hz : (u2 : Int) - b + c = 0 := by have := HN.out.2.1; rw [HU2.out] at this; omega
                  have hg0 : 0 < g := by rw [HN.out.1]; exact Nat.succ_pos _
                  have HB3 := Lib.hid hB
                  clear hB
                  go_wp2_with fail
                  go_ret
                  refine ⟨congrArg (fun z : Int => Ending.returned (Value.int .u32 z)) (by rw [HN.out.1, Int.natCast_add]; exact Int.add_sub_cancel _ _ : (g : Int) - 1 = ((nv us / nv vs : Nat) : Int)), ys.set (n + 2) 0, by rw [List.length_set]; exact hyl, set_lt HK3.out.y9 (by omega), HN.out.2.2, HB3.out.setMid (n + 2) 0 (by omega) (by omega), only_setCell hG3 rfl _⟩
end Go.Proofs.YtefiapjfiojaoaaDoor

/-
  Long division: plain laws, no program in sight.
-/
namespace Go.Proofs.YtefiapjfiojaoaaDoor

/-- k windows are still to be divided: o is the quotient, us the rest, u0 the dividend, V < B^n the divisor. -/
structure LD (u0 : List Nat) (V n K k : Nat) (o us : List Nat) : Prop where
  lo : o.length = K
  lu : us.length = K + n
  l0 : u0.length = K + n
  kK : k ≤ K
  o9 : ∀ a ∈ o, a < 1000000000
  u9 : ∀ a ∈ us, a < 1000000000
  take : us.take k = u0.take k
  eq : nv (u0.drop k) = V * nv (o.drop k) + nv (us.drop k)
  lt : nv (us.drop k) < V
  Vn : V < 1000000000 ^ n

theorem LD.start {u0 : List Nat} {V n K : Nat} (h0 : u0.length = K + n) (h9 : ∀ a ∈ u0, a < 1000000000) (hlt : nv (u0.drop K) < V) (hVn : V < 1000000000 ^ n) : LD u0 V n K K (List.replicate K 0) u0 :=
  ⟨by simp, h0, h0, Nat.le_refl _, fun a ha => by simp at ha; omega, h9, rfl, by simp [nv], hlt, hVn⟩

theorem LD.rest {u0 o us : List Nat} {V n K k : Nat} (h : LD u0 V n K k o us) : nv (us.drop (k + n)) = 0 := by
  have h1 := nv_split (us.drop k) n (by have := h.lu; have := h.kK; simp; omega)
  rw [List.drop_drop] at h1
  rcases Nat.eq_zero_or_pos (nv (us.drop (k + n))) with h2 | h2
  · exact h2
  · exfalso
    have : 1000000000 ^ n * 1 ≤ 1000000000 ^ n * nv (us.drop (k + n)) := Nat.mul_le_mul_left _ h2
    have := h.lt
    have := h.Vn
    omega
theorem LD.window {u0 o us : List Nat} {V n K k : Nat} (h : LD u0 V n K (k + 1) o us) : nv ((us.drop k).take (n + 1)) = nv (us.drop k) ∧ nv ((us.drop k).take (n + 1)) < V * 1000000000 := by
  have hl := h.lu
  have hk := h.kK
  have h1 := nv_split (us.drop k) (n + 1) (by simp; omega)
  rw [List.drop_drop, show k + (n + 1) = k + 1 + n from by omega, h.rest, Nat.mul_zero, Nat.add_zero] at h1
  refine ⟨h1.symm, ?_⟩
  rw [← h1, nv_drop us k (by omega)]
  have h2 := h.u9 us[k] (List.getElem_mem _)
  have h3 := h.lt
  have h4 : (nv (us.drop (k + 1)) + 1) * 1000000000 ≤ V * 1000000000 := Nat.mul_le_mul_right _ h3
  omega
theorem LD.step {u0 o us W : List Nat} {V n K k : Nat} (h : LD u0 V n K (k + 1) o us) (hV : 0 < V) (hW : W.length = n + 1) (hW9 : ∀ a ∈ W, a < 1000000000) (hr : nv W = nv ((us.drop k).take (n + 1)) % V) :
    LD u0 V n K k (o.set k (nv ((us.drop k).take (n + 1)) / V)) (us.take k ++ W ++ us.drop (k + (n + 1))) := by
  have hl := h.lu
  have h0 := h.l0
  have ho := h.lo
  have hk := h.kK
  obtain ⟨hw1, hw2⟩ := h.window
  have hq : nv ((us.drop k).take (n + 1)) / V < 1000000000 := by rw [Nat.div_lt_iff_lt_mul hV, Nat.mul_comm]; exact hw2
  have htk : us.take k = u0.take k := by
    have := congrArg (List.take k) h.take
    rwa [List.take_take, List.take_take, Nat.min_eq_left (by omega)] at this
  have hd : (us.take k ++ W ++ us.drop (k + (n + 1))).drop k = W ++ us.drop (k + (n + 1)) := by
    rw [List.append_assoc, List.drop_append, List.drop_eq_nil_of_le (by simp; omega), List.nil_append, List.length_take, Nat.min_eq_left (by omega), Nat.sub_self, List.drop_zero]
  have hn : nv ((us.take k ++ W ++ us.drop (k + (n + 1))).drop k) = nv W := by
    rw [hd, nv_append, show k + (n + 1) = k + 1 + n from by omega, h.rest]; simp
  have he : us[k]'(by omega) = u0[k]'(by omega) := by
    have := congrArg (fun l => l.getD k 0) h.take
    simpa [List.getElem?_take, show k < us.length from by omega, show k < u0.length from by omega] using this
  refine ⟨by simp [ho], by simp [hW]; omega, h0, by omega, set_lt h.o9 hq, ?_, ?_, ?_, ?_, h.Vn⟩
  · intro a ha
    rcases List.mem_append.1 ha with ha | ha
    · rcases List.mem_append.1 ha with ha | ha
      · exact h.u9 a (List.mem_of_mem_take ha)
      · exact hW9 a ha
    · exact h.u9 a (List.mem_of_mem_drop ha)
  · rw [List.append_assoc, List.take_append, List.take_of_length_le (by simp; omega), List.length_take, Nat.min_eq_left (by omega), Nat.sub_self, List.take_zero, List.append_nil]
    exact htk
  · rw [hn, hr, nv_drop_set o k _ (by omega), nv_drop u0 k (by omega), h.eq, ← he, Nat.mul_add V]
    have h1 : nv ((us.drop k).take (n + 1)) = us[k]'(by omega) + 1000000000 * nv (us.drop (k + 1)) := by rw [hw1, nv_drop us k (by omega)]
    have h2 := Nat.div_add_mod (nv ((us.drop k).take (n + 1))) V
    have h3 : V * (1000000000 * nv (o.drop (k + 1))) = 1000000000 * (V * nv (o.drop (k + 1))) := Nat.mul_left_comm _ _ _
    omega
  · rw [hn, hr]; exact Nat.mod_lt _ hV
theorem LD.stop {u0 o us : List Nat} {V n K : Nat} (h : LD u0 V n K 0 o us) : nv o = nv u0 / V ∧ nv us = nv u0 % V := by
  have h1 := h.eq
  have h2 := h.lt
  rw [List.drop_zero, List.drop_zero] at h1
  rw [List.drop_zero] at h1 h2
  exact divs_end h1 h2

/-- The scale of a divisor y of n + 1 limbs with the leading limb t. -/
theorem scale_lt {y t n : Nat} (hy : y < (t + 1) * 1000000000 ^ n) : y * (1000000000 / (t + 1)) < 1000000000 ^ (n + 1) := by
  have h1 : 1000000000 / (t + 1) * (t + 1) ≤ 1000000000 := Nat.div_mul_le_self _ _
  rcases Nat.eq_zero_or_pos (1000000000 / (t + 1)) with h0 | h0
  · rw [h0, Nat.mul_zero]; exact Nat.pow_pos (by omega)
  · have h2 : y * (1000000000 / (t + 1)) < (t + 1) * 1000000000 ^ n * (1000000000 / (t + 1)) := Nat.mul_lt_mul_of_pos_right hy h0
    have h3 : (t + 1) * 1000000000 ^ n * (1000000000 / (t + 1)) = 1000000000 / (t + 1) * (t + 1) * 1000000000 ^ n := by
      rw [Nat.mul_comm, ← Nat.mul_assoc]
    have h4 : 1000000000 / (t + 1) * (t + 1) * 1000000000 ^ n ≤ 1000000000 * 1000000000 ^ n := Nat.mul_le_mul_right _ h1
    rw [Nat.pow_succ, Nat.mul_comm (1000000000 ^ n)]
    omega
theorem scale_pos {t : Nat} (ht : t < 1000000000) : 0 < 1000000000 / (t + 1) ∧ 1000000000 / (t + 1) ≤ 1000000000 := ⟨Nat.div_pos (by omega) (by omega), Nat.div_le_self _ _⟩
theorem lead_lt {ys : List Nat} {n : Nat} (hl : ys.length = n + 1) (h9 : ∀ a ∈ ys, a < 1000000000) : nv ys < (ys[n] + 1) * 1000000000 ^ n := by
  have h := nv_take ys n (by omega)
  rw [List.take_of_length_le (by omega)] at h
  have h2 := nv_lt (ys.take n) (fun a ha => h9 a (List.mem_of_mem_take ha))
  rw [List.length_take, Nat.min_eq_left (by omega)] at h2
  rw [Nat.add_mul, Nat.one_mul, Nat.mul_comm ys[n]]
  omega
theorem div_scaled {x y s : Nat} (hs : 0 < s) : x * s / (y * s) = x / y ∧ x * s % (y * s) / s = x % y := by
  refine ⟨Nat.mul_div_mul_right _ _ hs, ?_⟩
  rw [Nat.mul_mod_mul_right, Nat.mul_div_cancel _ hs]
end Go.Proofs.YtefiapjfiojaoaaDoor

/-
  The contract of rational.divide.
-/
namespace Go.Proofs.YtefiapjfiojaoaaDoor
open Go.RowKit

/-- A call returns two natural numbers. -/
def RetNN (w0 : World) (x r : Nat) (e : Ending) (w' : World) : Prop :=
  ∃ A c B d, e = .returned (.tuple #[.slice A (ln x) c, .slice B (ln r) d]) ∧ ln x ≤ c ∧ c ≤ 9223372036854775807 ∧ ln r ≤ d ∧ d ≤ 9223372036854775807 ∧ NS w' A x ∧ NS w' B r ∧ Up w0 w'

theorem Up.grown {w a b : World} (h : Up w a) {g : Nat} (hg : a.grownBy b (some g)) (hb : w.heap.size ≤ g) : Up w b :=
  ⟨hg.os.trans h.os, hg.tape.trans h.tape, hg.output.trans h.output, Nat.le_trans h.size hg.size, fun k hk => (hg.block k (Nat.lt_of_lt_of_le hk h.size) (by simp; omega)).trans (h.block k hk)⟩

theorem start_lt {u0 : List Nat} {K L1 x S y : Nat} (hu : nv u0 = x * S) (hx : x < 1000000000 ^ (K + L1)) (hy : 1000000000 ^ L1 ≤ y) (hS : 0 < S) (hK : K ≤ u0.length) : nv (u0.drop K) < y * S := by
  have h1 := nv_split u0 K hK
  have h2 : x * S < 1000000000 ^ (K + L1) * S := Nat.mul_lt_mul_of_pos_right hx hS
  rw [Nat.pow_add, Nat.mul_assoc] at h2
  have h3 : 1000000000 ^ K * nv (u0.drop K) < 1000000000 ^ K * (1000000000 ^ L1 * S) := by omega
  exact Nat.lt_of_lt_of_le (Nat.lt_of_mul_lt_mul_left h3) (Nat.mul_le_mul_right _ hy)
theorem v_facts {v0 : List Nat} {L1 V : Nat} (hl : v0.length = L1 + 2) (h9 : ∀ a ∈ v0, a < 1000000000) (hv : nv v0 = V) (hV : V < 1000000000 ^ (L1 + 1)) (hL : 1000000000 ^ L1 ≤ V) :
    nv (v0.take (L1 + 1)) = V ∧ (v0.take (L1 + 1)).getD L1 0 ≠ 0 := by
  have h1 := nv_split v0 (L1 + 1) (by omega)
  have h2 : nv (v0.drop (L1 + 1)) = 0 := by
    rcases Nat.eq_zero_or_pos (nv (v0.drop (L1 + 1))) with h | h
    · exact h
    · have : 1000000000 ^ (L1 + 1) * 1 ≤ 1000000000 ^ (L1 + 1) * nv (v0.drop (L1 + 1)) := Nat.mul_le_mul_left _ h
      omega
  rw [h2, Nat.mul_zero, Nat.add_zero, hv] at h1
  refine ⟨h1.symm, fun h0 => ?_⟩
  have h3 := nv_take' (v0.take (L1 + 1)) L1
  rw [h0, Nat.mul_zero, Nat.add_zero, List.take_take, List.take_take, Nat.min_self, Nat.min_eq_left (by omega), ← h1] at h3
  have h4 := nv_lt (v0.take L1) (fun a ha => h9 a (List.mem_of_mem_take ha))
  rw [List.length_take, Nat.min_eq_left (by omega)] at h4
  omega
/-- quotientLimb on a window of a block. -/
theorem quotientLimb_at (gu gv L j cu cv V : Nat) (us v0 : List Nat) (w : World) (hu : BN w gu us) (hv : BN w gv v0) (hne : gu ≠ gv) (hL : 2 ≤ L) (hL2 : L ≤ 17179869184) (hul : j + (L + 1) ≤ us.length) (hvl : v0.length = L + 1)
    (hu9 : ∀ a ∈ us, a < 1000000000) (hv9 : ∀ a ∈ v0, a < 1000000000) (hV : nv v0 = V) (hVL : V < 1000000000 ^ L) (hLV : 1000000000 ^ (L - 1) ≤ V) (hlt : nv ((us.drop j).take (L + 1)) < V * 1000000000) :
    Calls Tryd.prog 56 #[.slice (some ⟨gu, j, none⟩) (L + 1) cu, .slice (some ⟨gv, 0, none⟩) L cv] w fun e w' => ∃ W : List Nat, e = .returned (.int .u32 (nv ((us.drop j).take (L + 1)) / V : Nat)) ∧ W.length = L + 1 ∧
      (∀ a ∈ W, a < 1000000000) ∧ nv W = nv ((us.drop j).take (L + 1)) % V ∧ BN w' gu (us.take j ++ W ++ us.drop (j + (L + 1))) ∧ w.grownBy w' (some gu) := by
  obtain ⟨n, rfl⟩ : ∃ n, L = n + 2 := ⟨L - 2, by omega⟩
  obtain ⟨f1, f2⟩ := v_facts (L1 := n + 1) hvl hv9 hV hVL hLV
  have e1 : us = us.take j ++ (us.drop j).take (n + 2 + 1) ++ us.drop (j + (n + 2 + 1)) := by
    rw [List.append_assoc, ← List.drop_drop, List.take_append_drop, List.take_append_drop]
  have e2 : v0 = v0.take (n + 2) ++ v0.drop (n + 2) := (List.take_append_drop _ _).symm
  have l1 : (us.take j).length = j := by simp; omega
  have l2 : (v0.take (n + 2)).length = n + 2 := by simp; omega
  have l3 : ((us.drop j).take (n + 2 + 1)).length = n + 3 := by simp; omega
  rw [e1] at hu
  rw [e2] at hv
  have h := quotientLimb_any gu gv n cu cv (us.take j) ((us.drop j).take (n + 2 + 1)) (us.drop (j + (n + 2 + 1))) (v0.take (n + 2)) (v0.drop (n + 2)) w hu hv hne l3 l2
    (fun a ha => hu9 a (List.mem_of_mem_drop (List.mem_of_mem_take ha))) (fun a ha => hv9 a (List.mem_of_mem_take ha)) (by simpa [l2] using f2) (by rw [f1]; exact hlt) (by omega)
  rw [l1, f1] at h
  refine h.mono ?_
  rintro e w' ⟨rfl, W, hW, hW9, hWv, hWb, hWg⟩
  exact ⟨W, rfl, hW, hW9, hWv, hWb, hWg⟩

set_option maxHeartbeats 6400000 in
theorem divide_lt (A : Option Addr) (cap x : Nat) (B : Option Addr) (dap y : Nat) (w : World) (ha : NS w A x) (hb : NS w B y) (hla : ln x ≤ 17179869183) (hlb : ln y ≤ 17592186044416) (hxy : x < y) :
    Calls Tryd.prog 43 #[.slice A (ln x) cap, .slice B (ln y) dap] w (RetNN w 0 x) := by
  have HC := compare_any A cap x B dap y w ha hb (by omega) hlb
  rw [cmpN_lt hxy] at HC
  have HC1 := Lib.hid HC
  have hzl : (zs (digs x)).length = ln x := zs_length _
  unfold NS at ha
  have HD := Lib.hid (show RetNN w 0 x = RetNN w 0 x from rfl)
  obtain ⟨R, hR⟩ : ∃ R, R = RetNN w 0 x := ⟨_, rfl⟩
  have HR := Lib.hid hR
  obtain ⟨l, hl⟩ : ∃ l, l = ln x := ⟨_, rfl⟩
  have HL := Lib.hid hl
  rw [← hR]
  obtain ⟨zx, hzx⟩ : ∃ zx, zx = zs (digs x) := ⟨_, rfl⟩
  have HZ := Lib.hid hzx
  rw [← hzx] at ha hzl
  rw [← hzl] at hla HC1 ⊢
  clear HC HD hR hl hzx hxy hzl hb
  go_enter Tryd.func43, Tryd.ntmps43
  go_wp2_with fail
  refine HC1.out.mono ?_
  rintro e w1 ⟨rfl, hU⟩
  go_wp2_with (first
    | (at_builtin; go_must (refine wpList_append_ints rfl (.const (.slice none 0 0)) (.tmp 20) 38 rfl w1.heap.size 25 .u32 tabN (.slice none 0 0) [] rfl OI.nil_ w.heap.size A cap zx rfl (SI.below ha hU) (by simp; omega) (Nat.le_refl _) ?_; intro v2 w2 hA2)))
  rw [HR.out]
  obtain ⟨A2, c2, hv2, hc2, hm2, sA2, hO2⟩ := (hA2.own).form
  rw [List.nil_append, HZ.out, zs_length] at hv2 hc2
  rw [List.nil_append, HZ.out] at sA2
  refine ⟨none, 0, A2, c2, by rw [hv2, ln_zero]; rfl, by rw [ln_zero]; omega, by omega, hc2, by simpa [maxLen] using hm2, NS.zero, sA2, ?_⟩
  exact hU.trans (hA2.below (Up.refl w1) OI.nil_ (Nat.le_refl _))
set_option maxHeartbeats 6400000 in
theorem divide_one (A : Option Addr) (cap x : Nat) (B : Option Addr) (dap y : Nat) (w : World) (ha : NS w A x) (hb : NS w B y) (hla : ln x ≤ 17179869183) (hy : y ≠ 0) (hlb : ln y = 1) (hxy : y ≤ x) :
    Calls Tryd.prog 43 #[.slice A (ln x) cap, .slice B (ln y) dap] w (RetNN w (x / y) (x % y)) := by
  have HC := Lib.hid (compare_any A cap x B dap y w ha hb (by omega) (by omega))
  obtain ⟨z, hz⟩ : ∃ z, z = cmpN x y := ⟨_, rfl⟩
  have hz0 : decide (z < 0) = false := by
    have : ¬ x < y := by omega
    simp [hz, cmpN, this]; split <;> omega
  rw [← hz] at HC
  have hy9 : y < 1000000000 := by have := ln_le.1 (Nat.le_of_eq hlb); omega
  have hdy := digs_small hy hy9
  have hb' := hb
  unfold NS at hb'
  rw [hdy] at hb'
  obtain ⟨ad, hAd, had, hcell⟩ := hb'.nat (k := 0) (by simp)
  subst hAd
  rw [List.getElem_singleton] at hcell
  have HA := Lib.hid ha
  have HXY := Lib.hid (Nat.mod_lt x (Nat.pos_of_ne_zero hy))
  have hly : (((ln y : Nat) : Int) == 1) = true := by rw [hlb]; rfl
  clear hz hxy hb hb' hdy ha
  rw [hlb] at HC hly ⊢
  have hy0 : 0 < y := Nat.pos_of_ne_zero hy
  go_enter Tryd.func43, Tryd.ntmps43
  go_wp2_with fail
  refine HC.out.mono ?_
  rintro e w1 ⟨rfl, hU⟩
  have hc1 := (hU.cell (p := ad.add 0) (by rw [block_of_add]; exact had)).trans hcell
  simp [Addr.add] at hc1
  go_wp2_with fail
  refine (divideSmall_any A cap x y w1 (HA.out.up hU) (by omega) hy9 hy0).mono ?_
  rintro e w2 ⟨A2, c2, rfl, hc2, hm2, sA2, hU2⟩
  go_wp2_with fail
  refine (fromWord_any (x % y) w2 (by have := HXY.out; omega)).mono ?_
  rintro e w3 ⟨B3, d3, rfl, hc3, hm3, sB3, hU3⟩
  go_wp2_with fail
  go_ret2
  exact ⟨A2, c2, B3, d3, rfl, hc2, hm2, hc3, hm3, sA2.up hU3, sB3, hU.trans (hU2.trans hU3)⟩
set_option maxHeartbeats 12800000 in
theorem divide_big (A : Option Addr) (cap x : Nat) (B : Option Addr) (dap y : Nat) (w : World) (ha : NS w A x) (hb : NS w B y) (hla : ln x ≤ 17179869183) (hlb : 2 ≤ ln y) (hxy : y ≤ x) :
    Calls Tryd.prog 43 #[.slice A (ln x) cap, .slice B (ln y) dap] w (RetNN w (x / y) (x % y)) := by
  have hlyx : ln y ≤ ln x := ln_mono hxy
  have HC := Lib.hid (compare_any A cap x B dap y w ha hb (by omega) (by omega))
  obtain ⟨z, hz⟩ : ∃ z, z = cmpN x y := ⟨_, rfl⟩
  have hz0 : decide (z < 0) = false := by
    have : ¬ x < y := by omega
    simp [hz, cmpN, this]; split <;> omega
  rw [← hz] at HC
  have hyp : 1000000000 ^ (ln y - 1) ≤ y := pow_le_of_ln (by omega)
  obtain ⟨L, hL⟩ : ∃ L, L = ln y := ⟨_, rfl⟩
  have hyl : (digs y).length = L := hL.symm
  obtain ⟨ad, hAd, had, hcell⟩ := hb.nat (k := L - 1) (by omega)
  subst hAd
  have htop := digs_lt y _ (List.getElem_mem (show L - 1 < (digs y).length by omega))
  have hlead := lead_lt (n := L - 1) (ys := digs y) (by omega) (digs_lt y)
  rw [nv_digs] at hlead
  obtain ⟨t, ht⟩ : ∃ t, t = (digs y)[L - 1]'(by omega) := ⟨_, rfl⟩
  rw [← ht] at hcell htop hlead
  have ht0 : t ≠ 0 := by
    rintro rfl
    have := Nat.lt_of_lt_of_le hlead (by rw [Nat.zero_add, Nat.one_mul, hL]; exact hyp)
    omega
  obtain ⟨S, hS⟩ : ∃ S, S = 1000000000 / (t + 1) := ⟨_, rfl⟩
  have hsc := scale_lt hlead
  have hsp := (scale_pos htop).1
  have hS2 : S ≤ 500000000 := by
    rw [hS]
    exact Nat.le_trans (Nat.div_le_div_left (by omega : 2 ≤ t + 1) (by omega)) (by decide)
  rw [← hS, show L - 1 + 1 = L from by omega] at hsc
  rw [← hS] at hsp
  have hSi : (1000000000 : Int) / ((t : Int) + 1) = (S : Int) := by rw [hS]; simp
  have HSI := Lib.hid hSi
  have HA := Lib.hid ha
  have HB := Lib.hid hb
  have HSC := Lib.hid hsc
  have HYP := Lib.hid hyp
  have HXY := Lib.hid hxy
  have HL := Lib.hid hL
  have HSP := Lib.hid hsp
  have htop1 : 1 ≤ t := by omega
  have hly : (((L : Nat) : Int) == 1) = false := by simp; omega
  rw [← hL] at HC hlb hlyx ⊢
  have hLn : ((L : Int) - 1).toNat = L - 1 := by omega
  obtain ⟨M, hM⟩ : ∃ M, M = ln x := ⟨_, rfl⟩
  have HM := Lib.hid hM
  rw [← hM] at HC hlyx hla ⊢
  have hgb : ad.block < w.heap.size := had
  clear hz hxy ha hb hyp hyl ht hlead ht0 hS hsc hsp hSi hL hM had
  go_enter Tryd.func43, Tryd.ntmps43
  go_wp2_with fail
  refine HC.out.mono ?_
  rintro e w1 ⟨rfl, hU⟩
  have hc1 := (hU.cell (p := ad.add (L - 1)) (by rw [block_of_add]; exact hgb)).trans hcell
  go_wp2_with fail
  rw [HSI.out]
  have HS1 := multiplySmall_any A cap x S w1 (HA.out.up hU) (by rw [← HM.out]; omega) (by omega)
  rw [← HM.out] at HS1
  refine HS1.mono ?_
  rintro e w2 ⟨u0, rfl, hu0l, hu09, hu0v, hBu, hU2⟩
  have HU0 := Lib.hid (And.intro hu0l (And.intro hu09 (And.intro hu0v hBu)))
  clear HS1 hu0l hu09 hu0v hBu
  go_wp2_with fail
  have HS2 := multiplySmall_any (some ad) dap y S w2 ((HB.out.up hU).up hU2) (by rw [← HL.out]; omega) (by omega)
  rw [← HL.out] at HS2
  refine HS2.mono ?_
  rintro e w3 ⟨v0, rfl, hv0l, hv09, hv0v, hBv, hU3⟩
  have HV0 := Lib.hid (And.intro hv0l (And.intro hv09 (And.intro hv0v hBv)))
  have g1 := Lib.hid hU.size
  have g2 := Lib.hid hU2.size
  have g3 := Lib.hid hU3.size
  have g4 := Lib.hid (HU0.out.2.2.2.lt)
  obtain ⟨gu, hgu⟩ : ∃ g, g = w1.heap.size := ⟨_, rfl⟩
  obtain ⟨gv, hgv⟩ : ∃ g, g = w2.heap.size := ⟨_, rfl⟩
  have HGU := Lib.hid hgu
  have HGV := Lib.hid hgv
  rw [← hgu, ← hgv]
  clear HS2 hv0l hv09 hv0v hBv hgu hgv
  obtain ⟨K, hK⟩ : ∃ K, K = M - L + 1 := ⟨_, rfl⟩
  have hKi : (M : Int) - L + 1 = (K : Int) := by omega
  go_wp2_with (first
    | (at_make; go_must (refine wpList_makeB rfl (.tmp 59) (.tmp 59) 38 rfl 25 .u32 tabN .i64 .i64 _ _ K rfl rfl (by omega) (by omega) (by omega) ?_; intro w4 hB4 hU4)))
  rw [← hK]
  have hKL : K + L = M + 1 := by omega
  clear hK
  have hgq : w3.heap.size = w3.heap.size := rfl
  obtain ⟨gq, HGQ⟩ : ∃ g, Hid (g = w3.heap.size) := ⟨_, Lib.hid rfl⟩
  rw [← HGQ.out] at hB4 ⊢
  have q1 : gu < gv := by rw [HGU.out, HGV.out]; have := g4.out; exact this
  have q2 : gv < gq := by rw [HGV.out, HGQ.out]; exact HV0.out.2.2.2.lt
  have q3 : w.heap.size ≤ gu := by rw [HGU.out]; exact g1.out
  have HB4 := Lib.hid (BN.zeros hB4)
  have HBV := Lib.hid (show BN w4 gv v0 from by rw [HGV.out]; exact HV0.out.2.2.2.up hU4)
  have HBU := Lib.hid (show BN w4 gu u0 from by rw [HGU.out]; exact (HU0.out.2.2.2.up hU3).up hU4)
  have hU04 : Up w w4 := hU.trans (hU2.trans (hU3.trans hU4))
  have HLD := Lib.hid (LD.start (u0 := u0) (V := y * S) (n := L) (K := K) (by rw [HU0.out.1]; omega) HU0.out.2.1 (start_lt (L1 := L - 1) HU0.out.2.2.1 (by rw [show K + (L - 1) = ln x from by rw [← HM.out]; omega]; exact lt_pow_ln x) (by rw [HL.out]; exact HYP.out) HSP.out (by rw [HU0.out.1]; omega)) HSC.out)
  clear hB4 hgq hc1 hcell
  go_loopw [13] (fun iv wr => ∃ (k : Nat) (o us : List Nat), k ≤ K ∧ iv = .int .i64 ((k : Int) - 1) ∧ Hid (LD u0 (y * S) L K k o us) ∧ Hid (BN wr gu us) ∧ Hid (BN wr gv v0) ∧ Hid (BN wr gq o) ∧ Up w wr) (fun iv _ => (intOf iv + 1).toNat)
  case atStart => exact ⟨K, List.replicate K 0, u0, Nat.le_refl _, by congr 1; omega, HLD, HBU, HBV, HB4, hU04⟩
  case round =>
    obtain ⟨k, o, us, hk, rfl, HK, HU1, HV1, HQ1, hUr⟩ := hrel
    by_cases hk0 : k = 0
    · subst hk0
      obtain ⟨e1, e2⟩ := HK.out.stop
      have hsu := HU1.out.si
      have hsq := HQ1.out.si
      have hlu : us.length = M + 1 := by have := HK.out.lu; omega
      have hlo := HK.out.lo
      obtain ⟨T1, T2⟩ := trim_reads hsu HK.out.u9
      obtain ⟨T3, T4⟩ := trim_reads hsq HK.out.o9
      have HT := trim_any _ (M + 1) us wr.heap.size wr hsu (by omega) (by omega) HK.out.u9
      have HT2 := trim_any _ K o wr.heap.size wr hsq (by omega) (by omega) HK.out.o9
      rw [hlu] at HT T2
      rw [hlo] at HT2 T4
      have hv1 : nv o = x / y := by rw [e1, HU0.out.2.2.1, (div_scaled HSP.out).1]
      have hv2 : nv us / S = x % y := by rw [e2, HU0.out.2.2.1, (div_scaled HSP.out).2]
      have H1 := Lib.hid HT
      have H2 := Lib.hid HT2
      have H3 := Lib.hid T1
      have H4 := Lib.hid T3
      have H5 := Lib.hid T4
      have H6 := Lib.hid hv1
      have H7 := Lib.hid hv2
      clear HT HT2 T1 T3 T4 e1 e2 hsu hsq hlu hlo hv1 hv2
      go_wp2_with fail
      refine H1.out.mono ?_
      rintro e w5 ⟨rfl, rfl⟩
      go_wp2_with fail
      refine (divideSmall_any _ (M + 1) (nv us) S wr H3.out (by omega) (by omega) HSP.out).mono ?_
      rintro e w6 ⟨A2, c2, rfl, hc2, hm2, sA2, hU6⟩
      rw [H7.out] at hc2 sA2 ⊢
      have HT6 := Lib.hid (trim_any _ K o wr.heap.size w6 (SI.below HQ1.out.si hU6) (by rw [HK.out.lo]; omega) (by omega) HK.out.o9)
      rw [HK.out.lo] at HT6
      go_wp2_with fail
      refine HT6.out.mono ?_
      rintro e w7 ⟨rfl, rfl⟩
      go_wp2_with fail
      go_ret2
      have h5 := H5.out
      have h4 := H4.out
      rw [H6.out] at h4 h5
      rw [H6.out]
      exact ⟨_, K, A2, c2, rfl, h5, by omega, hc2, hm2, SI.up h4 hU6, sA2, hUr.trans hU6⟩
    · obtain ⟨j, rfl⟩ : ∃ j, k = j + 1 := ⟨k - 1, by omega⟩
      have kk : ((j + 1 : Nat) : Int) - 1 = (j : Int) := by omega
      rw [kk]
      obtain ⟨hw1, hw2⟩ := HK.out.window
      have hQ := quotientLimb_at gu gv L j (M + 1 - j) (L + 1) (y * S) us v0 wr HU1.out HV1.out (by omega) (by omega) (by omega) (by have := HK.out.lu; omega) HV0.out.1 HK.out.u9 HV0.out.2.1 HV0.out.2.2.1 HSC.out
        (Nat.le_trans (by rw [HL.out]; exact HYP.out) (Nat.le_mul_of_pos_right _ HSP.out)) hw2
      have hyS : 0 < y * S := Nat.lt_of_le_of_lt (Nat.zero_le _) HK.out.lt
      have hq9 : nv ((us.drop j).take (L + 1)) / (y * S) < 1000000000 := by rw [Nat.div_lt_iff_lt_mul hyS, Nat.mul_comm]; exact hw2
      have HQQ := Lib.hid hQ
      obtain ⟨qj, hqj⟩ : ∃ q, q = nv ((us.drop j).take (L + 1)) / (y * S) := ⟨_, rfl⟩
      have HQJ := Lib.hid hqj
      rw [← hqj] at hq9 HQQ
      clear hQ hw1 hw2 hyS hqj
      go_wp2_with fail
      rw [show j + L + 1 - j = L + 1 from by omega]
      refine HQQ.out.mono ?_
      rintro e w5 ⟨W, rfl, hW, hW9, hWv, hWB, hWG⟩
      have hqo := (HQ1.out.only hWG (by omega)).cell (k := j) (by have := HK.out.lo; omega)
      have hqf := (HQ1.out.only hWG (by omega)).frozen j
      have hus := Lib.hid hUr.size
      have HW := Lib.hid (HK.out.step (Nat.lt_of_le_of_lt (Nat.zero_le _) HK.out.lt) hW hW9 hWv)
      rw [← HQJ.out] at HW
      have HB5 := Lib.hid hWB
      have HG5 := Lib.hid hWG
      have HQ5 := Lib.hid (HQ1.out.only hWG (by omega))
      have HV5 := Lib.hid (HV1.out.only hWG (by omega))
      have hjK : (j : Int) < K := by omega
      clear hW hW9 hWv hWB hWG
      go_wp2_with fail
      go_roundw
      case rel =>
        refine ⟨j, o.set j qj, us.take j ++ W ++ us.drop (j + (L + 1)), by omega, rfl, HW, Lib.hid (HB5.out.far (by simp; omega) _), Lib.hid (HV5.out.far (by simp; omega) _), Lib.hid (HQ5.out.set_ j qj rfl), (hUr.grown HG5.out q3).setCell (by simp; omega) _⟩
      case measure => simp [intOf] <;> omega
theorem divide_any (A : Option Addr) (cap x : Nat) (B : Option Addr) (dap y : Nat) (w : World) (ha : NS w A x) (hb : NS w B y) (hla : ln x ≤ 17179869183) (hlb : ln y ≤ 17592186044416) (hy : y ≠ 0) :
    Calls Tryd.prog 43 #[.slice A (ln x) cap, .slice B (ln y) dap] w (RetNN w (x / y) (x % y)) := by
  by_cases hxy : x < y
  · rw [Nat.div_eq_of_lt hxy, Nat.mod_eq_of_lt hxy]
    exact divide_lt A cap x B dap y w ha hb hla hlb hxy
  by_cases h1 : ln y = 1
  · exact divide_one A cap x B dap y w ha hb hla hy h1 (by omega)
  · have : ln y ≠ 0 := fun h => hy (ln_eq_zero.1 h)
    exact divide_big A cap x B dap y w ha hb hla (by omega) (by omega)
end Go.Proofs.YtefiapjfiojaoaaDoor

/-
  The contract of rational.gcd.
-/
namespace Go.Proofs.YtefiapjfiojaoaaDoor
open Go.RowKit

theorem RetN.up {w w1 w2 : World} {x : Nat} {e : Ending} (h : RetN w1 x e w2) (hu : Up w w1) : RetN w x e w2 := by
  obtain ⟨A, c, h1, h2, h3, h4, h5⟩ := h
  exact ⟨A, c, h1, h2, h3, h4, hu.trans h5⟩

/-- What a slice of limbs denotes. -/
def readN (w : World) : Value → Nat
  | .slice (some a) l _ => nv ((List.range l).map fun k => match w.cell? (a.add k) with | some (.int _ z) => z.toNat | _ => 0)
  | _ => 0
theorem readN_eq {w : World} {A : Option Addr} {x c : Nat} (h : NS w A x) : readN w (.slice A (ln x) c) = x := by
  have hl : (digs x).length = ln x := rfl
  have hx := nv_digs x
  unfold NS at h
  obtain ⟨ns, hns⟩ : ∃ ns, ns = digs x := ⟨_, rfl⟩
  rw [← hns] at h hl hx
  rw [← hl]
  cases A with
  | none =>
    have : ns.length = 0 := by
      rcases Nat.eq_zero_or_pos ns.length with h0 | h0
      · exact h0
      · obtain ⟨ad, e, _⟩ := h.nat h0; cases e
    have : ns = [] := List.length_eq_zero_iff.1 this
    subst this
    simp [nv] at hx
    simp [readN, hx]
  | some a =>
    have : (List.range ns.length).map (fun k => match w.cell? (a.add k) with | some (.int _ z) => z.toNat | _ => 0) = ns := by
      refine List.ext_getElem (by simp) ?_
      intro k h1 h2
      obtain ⟨ad, e, _, hc⟩ := h.nat h2
      cases e
      simp [hc]
    simp only [readN]
    rw [this, hx]
theorem lt_words {x : Nat} (h : ln x ≤ 2) : x < 18446744073709551616 := Nat.lt_of_lt_of_le (ln_le.1 h) (by decide)

set_option maxHeartbeats 6400000 in
theorem gcd_any (A : Option Addr) (cap x : Nat) (B : Option Addr) (dap y : Nat) (w : World) (ha : NS w A x) (hb : NS w B y) (hca : ln x ≤ cap) (hcb : ln y ≤ dap) (hma : cap ≤ 9223372036854775807) (hmb : dap ≤ 9223372036854775807)
    (hla : ln x ≤ 17179869183) (hlb : ln y ≤ 17179869183) :
    Calls Tryd.prog 42 #[.slice A (ln x) cap, .slice B (ln y) dap] w (RetN w (Nat.gcd x y)) := by
  have HA := Lib.hid ha
  have HB := Lib.hid hb
  have HC := Lib.hid (And.intro hca (And.intro hma (And.intro hcb hmb)))
  clear ha hb hca hcb hma hmb
  go_enter Tryd.func42, Tryd.ntmps42
  go_wp2_with fail
  go_loopw [0, 1] (fun v0 v1 wr => ∃ (A : Option Addr) (c a : Nat) (B : Option Addr) (d b : Nat), v0 = .slice A (ln a) c ∧ v1 = .slice B (ln b) d ∧ ln a ≤ 17179869183 ∧ ln b ≤ 17179869183 ∧
      Hid (NS wr A a ∧ NS wr B b ∧ ln a ≤ c ∧ c ≤ 9223372036854775807 ∧ ln b ≤ d ∧ d ≤ 9223372036854775807 ∧ Nat.gcd a b = Nat.gcd x y) ∧ Up w wr) (fun _ v1 wr => readN wr v1)
  case atStart => exact ⟨A, cap, x, B, dap, y, rfl, rfl, hla, hlb, Lib.hid ⟨HA.out, HB.out, HC.out.1, HC.out.2.1, HC.out.2.2.1, HC.out.2.2.2, rfl⟩, Up.refl w⟩
  case round =>
    obtain ⟨A1, c, a, B1, d, b, rfl, rfl, hl1, hl2, HR, hU⟩ := hrel
    by_cases hb0 : b = 0
    · subst hb0
      have hg : a = Nat.gcd x y := by rw [← HR.out.2.2.2.2.2.2, Nat.gcd_zero_right]
      have HG := Lib.hid hg
      clear hg
      rw [ln_zero] at *
      go_wp2_with fail
      go_ret
      rw [← HG.out]
      exact ⟨A1, c, rfl, HR.out.2.2.1, HR.out.2.2.2.1, HR.out.1, hU⟩
    · have hlp : 0 < ln b := Nat.pos_of_ne_zero fun h => hb0 (ln_eq_zero.1 h)
      by_cases hw : ln a ≤ 2 ∧ ln b ≤ 2
      · obtain ⟨hw1, hw2⟩ := hw
        have hx1 := lt_words hw1
        have hx2 := lt_words hw2
        have HW1 := word_any A1 c a wr HR.out.1 (by omega)
        have HW2 := word_any B1 d b wr HR.out.2.1 (by omega)
        rw [wordV_yes hx1] at HW1
        rw [wordV_yes hx2] at HW2
        have H1 := Lib.hid HW1
        have H2 := Lib.hid HW2
        clear HW1 HW2
        go_wp2_with fail
        refine H1.out.mono ?_
        rintro e w5 ⟨rfl, rfl⟩
        go_wp2_with fail
        refine H2.out.mono ?_
        rintro e w5 ⟨rfl, rfl⟩
        go_wp2_with fail
        go_loopw [5, 7] (fun v0 v1 wx => ∃ p q : Nat, v0 = .int .u64 p ∧ v1 = .int .u64 q ∧ p < 18446744073709551616 ∧ q < 18446744073709551616 ∧ Hid (Nat.gcd p q = Nat.gcd x y) ∧ Up w wx) (fun _ v1 _ => (intOf v1).toNat)
        case atStart => exact ⟨a, b, rfl, rfl, hx1, hx2, Lib.hid HR.out.2.2.2.2.2.2, hU⟩
        case round =>
          obtain ⟨p, q, rfl, rfl, hp, hq, HG, hUx⟩ := hrel
          by_cases hq0 : q = 0
          · subst hq0
            have HG2 := Lib.hid (show p = Nat.gcd x y from by rw [← HG.out, Nat.gcd_zero_right])
            go_wp2_with fail
            refine (fromWord_any p _ hp).mono ?_
            rintro e w6 hR6
            obtain ⟨A6, c6, rfl, h61, h62, h63, h64⟩ := hR6
            go_wp2_with fail
            go_ret
            rw [← HG2.out]
            exact ⟨A6, c6, rfl, h61, h62, h63, hUx.trans h64⟩
          · have hq1 : ((q : Int) == 0) = false := by simp; omega
            have hq2 : decide ((0 : Int) < q) = true := by simp; omega
            have HM := Lib.hid (Nat.mod_lt p (Nat.pos_of_ne_zero hq0))
            have HG2 := Lib.hid (show Nat.gcd q (p % q) = Nat.gcd x y from by rw [Nat.gcd_comm, ← Nat.gcd_rec, Nat.gcd_comm]; exact HG.out)
            go_wp2_with fail
            go_quiet (fail)
            go_wp2_with fail
            go_roundw
            case rel => exact ⟨q, p % q, rfl, by simp, hq, Nat.lt_trans HM.out hq, HG2, below_drewN hUx _⟩
            case measure =>
              have h := HM.out
              have e : (p : Int) % q = ((p % q : Nat) : Int) := by simp
              simp [intOf]
              rw [e]
              omega
      · have HD := Lib.hid (divide_any A1 c a B1 d b wr HR.out.1 HR.out.2.1 hl1 (by omega) hb0)
        have HM := Lib.hid (Nat.mod_lt a (Nat.pos_of_ne_zero hb0))
        have HG2 := Lib.hid (show Nat.gcd b (a % b) = Nat.gcd x y from by rw [Nat.gcd_comm, ← Nat.gcd_rec, Nat.gcd_comm]; exact HR.out.2.2.2.2.2.2)
        go_wp2_with fail
        all_goals
          refine HD.out.mono ?_
          rintro e w5 ⟨A2, c2, B2, d2, rfl, h1, h2, h3, h4, h5, h6, hU5⟩
          go_wp2_with fail
          go_roundw
          case rel =>
            exact ⟨B1, d, b, B2, d2, a % b, rfl, rfl, hl2, Nat.le_trans (ln_mono (Nat.le_of_lt HM.out)) hl2, Lib.hid ⟨HR.out.2.1.up hU5, h6, HR.out.2.2.2.2.1, HR.out.2.2.2.2.2.1, h3, h4, HG2.out⟩, hU.trans hU5⟩
          case measure =>
            have e1 := readN_eq (c := d2) h6
            have e2 := readN_eq (c := d) HR.out.2.1
            exact (by rw [e1, e2]; exact HM.out : readN w5 (.slice B2 (ln (a % b)) d2) < readN wr (.slice B1 (ln b) d))
end Go.Proofs.YtefiapjfiojaoaaDoor
