/-
  Long division: plain laws, no program in sight.
-/
import Derived.Test.YtoedmnalnpmleaaNQuot
namespace Go.Proofs.Ytoedmnalnpmleaa

/-- k windows are still to be divided: o is the quotient, us the rest, u0 the dividend, V < B^n the divisor. -/
structure LD (u0 : List Nat) (V n K k : Nat) (o us : List Nat) : Prop where
  lo : o.length = K
  lu : us.length = K + n
  l0 : u0.length = K + n
  kK : k ≤ K
  o9 : ∀ a ∈ o, a < 1000000000
  u9 : ∀ a ∈ us, a < 1000000000
  take : us.take k = u0.take k
  eq : nv (u0.drop k) = V * nv (o.drop k) + nv (us.drop k)
  lt : nv (us.drop k) < V
  Vn : V < 1000000000 ^ n

theorem LD.start {u0 : List Nat} {V n K : Nat} (h0 : u0.length = K + n) (h9 : ∀ a ∈ u0, a < 1000000000) (hlt : nv (u0.drop K) < V) (hVn : V < 1000000000 ^ n) : LD u0 V n K K (List.replicate K 0) u0 :=
  ⟨by simp, h0, h0, Nat.le_refl _, fun a ha => by simp at ha; omega, h9, rfl, by simp [nv], hlt, hVn⟩

theorem LD.rest {u0 o us : List Nat} {V n K k : Nat} (h : LD u0 V n K k o us) : nv (us.drop (k + n)) = 0 := by
  have h1 := nv_split (us.drop k) n (by have := h.lu; have := h.kK; simp; omega)
  rw [List.drop_drop] at h1
  rcases Nat.eq_zero_or_pos (nv (us.drop (k + n))) with h2 | h2
  · exact h2
  · exfalso
    have : 1000000000 ^ n * 1 ≤ 1000000000 ^ n * nv (us.drop (k + n)) := Nat.mul_le_mul_left _ h2
    have := h.lt
    have := h.Vn
    omega
theorem LD.window {u0 o us : List Nat} {V n K k : Nat} (h : LD u0 V n K (k + 1) o us) : nv ((us.drop k).take (n + 1)) = nv (us.drop k) ∧ nv ((us.drop k).take (n + 1)) < V * 1000000000 := by
  have hl := h.lu
  have hk := h.kK
  have h1 := nv_split (us.drop k) (n + 1) (by simp; omega)
  rw [List.drop_drop, show k + (n + 1) = k + 1 + n from by omega, h.rest, Nat.mul_zero, Nat.add_zero] at h1
  refine ⟨h1.symm, ?_⟩
  rw [← h1, nv_drop us k (by omega)]
  have h2 := h.u9 us[k] (List.getElem_mem _)
  have h3 := h.lt
  have h4 : (nv (us.drop (k + 1)) + 1) * 1000000000 ≤ V * 1000000000 := Nat.mul_le_mul_right _ h3
  omega
theorem LD.step {u0 o us W : List Nat} {V n K k : Nat} (h : LD u0 V n K (k + 1) o us) (hV : 0 < V) (hW : W.length = n + 1) (hW9 : ∀ a ∈ W, a < 1000000000) (hr : nv W = nv ((us.drop k).take (n + 1)) % V) :
    LD u0 V n K k (o.set k (nv ((us.drop k).take (n + 1)) / V)) (us.take k ++ W ++ us.drop (k + (n + 1))) := by
  have hl := h.lu
  have h0 := h.l0
  have ho := h.lo
  have hk := h.kK
  obtain ⟨hw1, hw2⟩ := h.window
  have hq : nv ((us.drop k).take (n + 1)) / V < 1000000000 := by rw [Nat.div_lt_iff_lt_mul hV, Nat.mul_comm]; exact hw2
  have htk : us.take k = u0.take k := by
    have := congrArg (List.take k) h.take
    rwa [List.take_take, List.take_take, Nat.min_eq_left (by omega)] at this
  have hd : (us.take k ++ W ++ us.drop (k + (n + 1))).drop k = W ++ us.drop (k + (n + 1)) := by
    rw [List.append_assoc, List.drop_append, List.drop_eq_nil_of_le (by simp; omega), List.nil_append, List.length_take, Nat.min_eq_left (by omega), Nat.sub_self, List.drop_zero]
  have hn : nv ((us.take k ++ W ++ us.drop (k + (n + 1))).drop k) = nv W := by
    rw [hd, nv_append, show k + (n + 1) = k + 1 + n from by omega, h.rest]; simp
  have he : us[k]'(by omega) = u0[k]'(by omega) := by
    have := congrArg (fun l => l.getD k 0) h.take
    simpa [List.getElem?_take, show k < us.length from by omega, show k < u0.length from by omega] using this
  refine ⟨by simp [ho], by simp [hW]; omega, h0, by omega, set_lt h.o9 hq, ?_, ?_, ?_, ?_, h.Vn⟩
  · intro a ha
    rcases List.mem_append.1 ha with ha | ha
    · rcases List.mem_append.1 ha with ha | ha
      · exact h.u9 a (List.mem_of_mem_take ha)
      · exact hW9 a ha
    · exact h.u9 a (List.mem_of_mem_drop ha)
  · rw [List.append_assoc, List.take_append, List.take_of_length_le (by simp; omega), List.length_take, Nat.min_eq_left (by omega), Nat.sub_self, List.take_zero, List.append_nil]
    exact htk
  · rw [hn, hr, nv_drop_set o k _ (by omega), nv_drop u0 k (by omega), h.eq, ← he, Nat.mul_add V]
    have h1 : nv ((us.drop k).take (n + 1)) = us[k]'(by omega) + 1000000000 * nv (us.drop (k + 1)) := by rw [hw1, nv_drop us k (by omega)]
    have h2 := Nat.div_add_mod (nv ((us.drop k).take (n + 1))) V
    have h3 : V * (1000000000 * nv (o.drop (k + 1))) = 1000000000 * (V * nv (o.drop (k + 1))) := Nat.mul_left_comm _ _ _
    omega
  · rw [hn, hr]; exact Nat.mod_lt _ hV
theorem LD.stop {u0 o us : List Nat} {V n K : Nat} (h : LD u0 V n K 0 o us) : nv o = nv u0 / V ∧ nv us = nv u0 % V := by
  have h1 := h.eq
  have h2 := h.lt
  rw [List.drop_zero, List.drop_zero] at h1
  rw [List.drop_zero] at h1 h2
  exact divs_end h1 h2

/-- The scale of a divisor y of n + 1 limbs with the leading limb t. -/
theorem scale_lt {y t n : Nat} (hy : y < (t + 1) * 1000000000 ^ n) : y * (1000000000 / (t + 1)) < 1000000000 ^ (n + 1) := by
  have h1 : 1000000000 / (t + 1) * (t + 1) ≤ 1000000000 := Nat.div_mul_le_self _ _
  rcases Nat.eq_zero_or_pos (1000000000 / (t + 1)) with h0 | h0
  · rw [h0, Nat.mul_zero]; exact Nat.pow_pos (by omega)
  · have h2 : y * (1000000000 / (t + 1)) < (t + 1) * 1000000000 ^ n * (1000000000 / (t + 1)) := Nat.mul_lt_mul_of_pos_right hy h0
    have h3 : (t + 1) * 1000000000 ^ n * (1000000000 / (t + 1)) = 1000000000 / (t + 1) * (t + 1) * 1000000000 ^ n := by
      rw [Nat.mul_comm, ← Nat.mul_assoc]
    have h4 : 1000000000 / (t + 1) * (t + 1) * 1000000000 ^ n ≤ 1000000000 * 1000000000 ^ n := Nat.mul_le_mul_right _ h1
    rw [Nat.pow_succ, Nat.mul_comm (1000000000 ^ n)]
    omega
theorem scale_pos {t : Nat} (ht : t < 1000000000) : 0 < 1000000000 / (t + 1) ∧ 1000000000 / (t + 1) ≤ 1000000000 := ⟨Nat.div_pos (by omega) (by omega), Nat.div_le_self _ _⟩
theorem lead_lt {ys : List Nat} {n : Nat} (hl : ys.length = n + 1) (h9 : ∀ a ∈ ys, a < 1000000000) : nv ys < (ys[n] + 1) * 1000000000 ^ n := by
  have h := nv_take ys n (by omega)
  rw [List.take_of_length_le (by omega)] at h
  have h2 := nv_lt (ys.take n) (fun a ha => h9 a (List.mem_of_mem_take ha))
  rw [List.length_take, Nat.min_eq_left (by omega)] at h2
  rw [Nat.add_mul, Nat.one_mul, Nat.mul_comm ys[n]]
  omega
theorem div_scaled {x y s : Nat} (hs : 0 < s) : x * s / (y * s) = x / y ∧ x * s % (y * s) / s = x % y := by
  refine ⟨Nat.mul_div_mul_right _ _ hs, ?_⟩
  rw [Nat.mul_mod_mul_right, Nat.mul_div_cancel _ hs]
end Go.Proofs.Ytoedmnalnpmleaa
