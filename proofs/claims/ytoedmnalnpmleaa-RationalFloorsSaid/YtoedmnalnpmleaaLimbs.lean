/-
  Natural numbers as lists of limbs to the base 10^9: plain laws, no program in sight.
-/
namespace Go.Proofs.Ytoedmnalnpmleaa

/-- The number that a list of limbs denotes, least significant limb first. -/
def nv : List Nat → Nat
  | [] => 0
  | a :: l => a + 1000000000 * nv l

/-- The canonical limbs of a number. -/
def digs (n : Nat) : List Nat := if n = 0 then [] else n % 1000000000 :: digs (n / 1000000000)
termination_by n
decreasing_by omega

def ln (n : Nat) : Nat := (digs n).length

theorem digs_zero : digs 0 = [] := by rw [digs]; simp
theorem digs_pos {n : Nat} (h : n ≠ 0) : digs n = n % 1000000000 :: digs (n / 1000000000) := by rw [digs, if_neg h]
theorem digs_small {n : Nat} (h : n ≠ 0) (h' : n < 1000000000) : digs n = [n] := by
  rw [digs_pos h, show n / 1000000000 = 0 from by omega, digs_zero, show n % 1000000000 = n from by omega]
theorem digs_nil {n : Nat} : digs n = [] ↔ n = 0 := by
  constructor
  · intro h
    by_cases e : n = 0
    · exact e
    · rw [digs_pos e] at h; cases h
  · rintro rfl; exact digs_zero
theorem ln_zero : ln 0 = 0 := by simp [ln, digs_zero]
theorem ln_pos {n : Nat} (h : n ≠ 0) : ln n = ln (n / 1000000000) + 1 := by simp [ln, digs_pos h]
theorem ln_eq_zero {n : Nat} : ln n = 0 ↔ n = 0 := by rw [ln, List.length_eq_zero_iff, digs_nil]

theorem nv_digs (n : Nat) : nv (digs n) = n := by
  induction n using Nat.strongRecOn with
  | _ n ih =>
    by_cases h : n = 0
    · subst h; simp [digs_zero, nv]
    · rw [digs_pos h, nv, ih (n / 1000000000) (by omega)]
      omega

theorem digs_lt (n : Nat) : ∀ a ∈ digs n, a < 1000000000 := by
  induction n using Nat.strongRecOn with
  | _ n ih =>
    by_cases h : n = 0
    · subst h; simp [digs_zero]
    · rw [digs_pos h]
      intro a ha
      rcases List.mem_cons.1 ha with rfl | ha
      · omega
      · exact ih _ (by omega) a ha

theorem nv_append (l m : List Nat) : nv (l ++ m) = nv l + 1000000000 ^ l.length * nv m := by
  induction l with
  | nil => simp [nv]
  | cons a l ih =>
    simp only [List.cons_append, nv, ih, List.length_cons, Nat.pow_succ]
    rw [Nat.mul_add, Nat.mul_comm (1000000000 ^ l.length) 1000000000, Nat.mul_assoc]
    omega
theorem nv_snoc (l : List Nat) (a : Nat) : nv (l ++ [a]) = nv l + 1000000000 ^ l.length * a := by rw [nv_append]; simp [nv]
theorem nv_take (l : List Nat) (k : Nat) (h : k < l.length) : nv (l.take (k + 1)) = nv (l.take k) + 1000000000 ^ k * l[k] := by
  rw [List.take_succ_eq_append_getElem h, nv_snoc, List.length_take, Nat.min_eq_left (by omega)]
theorem nv_zeros (l : List Nat) (k : Nat) : nv (l ++ List.replicate k 0) = nv l := by
  rw [nv_append]
  have : nv (List.replicate k 0) = 0 := by
    induction k with
    | zero => rfl
    | succ k ih => simp [List.replicate_succ, nv, ih]
  rw [this]; omega
theorem nv_lt (l : List Nat) (h : ∀ a ∈ l, a < 1000000000) : nv l < 1000000000 ^ l.length := by
  induction l with
  | nil => simp [nv]
  | cons a l ih =>
    have h1 := h a (by simp)
    have h2 := ih (fun b hb => h b (by simp [hb]))
    simp only [nv, List.length_cons, Nat.pow_succ]
    omega

/-- Few limbs are small numbers. -/
theorem ln_le {n k : Nat} : ln n ≤ k ↔ n < 1000000000 ^ k := by
  constructor
  · intro h
    have h1 := nv_lt (digs n) (digs_lt n)
    rw [nv_digs] at h1
    exact Nat.lt_of_lt_of_le h1 (Nat.pow_le_pow_right (by omega) h)
  · intro h
    induction k generalizing n with
    | zero => simp at h; subst h; simp [ln_zero]
    | succ k ih =>
      by_cases e : n = 0
      · subst e; simp [ln_zero]
      · rw [ln_pos e]
        rw [Nat.pow_succ] at h
        have := ih (n := n / 1000000000) (by omega)
        omega
theorem ln_mono {m n : Nat} (h : m ≤ n) : ln m ≤ ln n := ln_le.2 (Nat.lt_of_le_of_lt h (ln_le.1 (Nat.le_refl _)))
theorem lt_pow_ln (n : Nat) : n < 1000000000 ^ ln n := ln_le.1 (Nat.le_refl _)
theorem pow_le_of_ln {n k : Nat} (h : k < ln n) : 1000000000 ^ k ≤ n := by
  rcases Nat.lt_or_ge n (1000000000 ^ k) with h1 | h1
  · have := ln_le.2 h1; omega
  · exact h1
theorem ln_mul (m n : Nat) : ln (m * n) ≤ ln m + ln n := by
  by_cases h : n = 0
  · subst h; simp [ln_zero]
  · rw [ln_le, Nat.pow_add]
    exact Nat.mul_lt_mul_of_lt_of_le (lt_pow_ln m) (Nat.le_of_lt (lt_pow_ln n)) (Nat.pow_pos (by omega))
theorem ln_add (m n : Nat) : ln (m + n) ≤ max (ln m) (ln n) + 1 := by
  rw [ln_le, Nat.pow_succ]
  have h1 := lt_pow_ln m
  have h2 := lt_pow_ln n
  have h3 : 1000000000 ^ ln m ≤ 1000000000 ^ max (ln m) (ln n) := Nat.pow_le_pow_right (by omega) (by omega)
  have h4 : 1000000000 ^ ln n ≤ 1000000000 ^ max (ln m) (ln n) := Nat.pow_le_pow_right (by omega) (by omega)
  omega
theorem ln_div (m n : Nat) : ln (m / n) ≤ ln m := ln_mono (Nat.div_le_self m n)

/-- A list of limbs below the base whose last one is not zero. -/
def Can (l : List Nat) : Prop := (∀ a ∈ l, a < 1000000000) ∧ l.getLast? ≠ some 0
theorem can_tail {a : Nat} {l : List Nat} (h : Can (a :: l)) : Can l := by
  refine ⟨fun b hb => h.1 b (by simp [hb]), ?_⟩
  cases l with
  | nil => simp
  | cons b l => have := h.2; rwa [List.getLast?_cons_cons] at this
theorem can_nv {l : List Nat} (h : Can l) (hl : l ≠ []) : nv l ≠ 0 := by
  induction l with
  | nil => exact absurd rfl hl
  | cons a l ih =>
    cases l with
    | nil =>
      have := h.2
      simp at this
      simpa [nv] using this
    | cons b l =>
      have := ih (can_tail h) (by simp)
      simp only [nv] at this ⊢
      omega
theorem digs_nv {l : List Nat} (h : Can l) : digs (nv l) = l := by
  induction l with
  | nil => simp [nv, digs_zero]
  | cons a l ih =>
    have h1 := h.1 a (by simp)
    have h2 := can_nv h (by simp)
    rw [digs_pos h2]
    simp only [nv]
    rw [show (a + 1000000000 * nv l) % 1000000000 = a from by omega, show (a + 1000000000 * nv l) / 1000000000 = nv l from by omega, ih (can_tail h)]
theorem can_digs (n : Nat) : Can (digs n) := by
  refine ⟨digs_lt n, ?_⟩
  induction n using Nat.strongRecOn with
  | _ n ih =>
    by_cases h : n = 0
    · subst h; simp [digs_zero]
    · rw [digs_pos h]
      by_cases h' : n / 1000000000 = 0
      · rw [h', digs_zero]; simp; omega
      · have := ih (n / 1000000000) (by omega)
        rw [digs_pos h'] at this ⊢
        rwa [List.getLast?_cons_cons]

/-- Zeros at the end left out, down to k elements at least looked at. -/
theorem digs_trim {l : List Nat} (h : ∀ a ∈ l, a < 1000000000) (n : Nat) (hn : n ≤ l.length) (h0 : ∀ j (hj : j < l.length), n ≤ j → l[j] = 0) (hl : n = 0 ∨ ∃ h : n - 1 < l.length, l[n - 1] ≠ 0) :
    digs (nv l) = l.take n := by
  have e : l = l.take n ++ List.replicate (l.length - n) 0 := by
    apply List.ext_getElem
    · simp; omega
    · intro i h1 h2
      rw [List.getElem_append]
      split
      · simp
      · rename_i hi
        simp at hi ⊢
        exact h0 i h1 (by omega)
  rw [show nv l = nv (l.take n) from by rw [e, nv_zeros]; congr 1; rw [List.take_append_of_le_length (by simp; omega), List.take_take, Nat.min_self]]
  refine digs_nv ⟨fun a ha => h a (List.mem_of_mem_take ha), ?_⟩
  rcases hl with rfl | ⟨h1, h2⟩
  · simp
  · rw [List.getLast?_eq_getElem?, List.length_take, Nat.min_eq_left hn, List.getElem?_take]
    by_cases e0 : n = 0
    · subst e0; simp
    · rw [if_pos (by omega), List.getElem?_eq_getElem h1]
      simpa using h2

/-- One step of a carry. -/
theorem carry_step (N P a c S : Nat) (k : Nat) (h : N + 1000000000 ^ k * c = P) (hS : S = a + c) :
    N + 1000000000 ^ k * (S % 1000000000) + 1000000000 ^ (k + 1) * (S / 1000000000) = P + 1000000000 ^ k * a := by
  rw [Nat.pow_succ, Nat.mul_assoc, Nat.add_assoc, ← Nat.mul_add, Nat.mod_add_div, hS, ← h, Nat.mul_add]
  omega

theorem nv_drop (l : List Nat) (k : Nat) (h : k < l.length) : nv (l.drop k) = l[k] + 1000000000 * nv (l.drop (k + 1)) := by
  rw [List.drop_eq_getElem_cons h, nv]
theorem nv_split (l : List Nat) (k : Nat) (h : k ≤ l.length) : nv l = nv (l.take k) + 1000000000 ^ k * nv (l.drop k) := by
  rw [← List.take_append_drop k l, nv_append, List.take_append_drop, List.length_take, Nat.min_eq_left h]
theorem nv_drop_le (l : List Nat) (k : Nat) (h : k ≤ l.length) : nv (l.drop k) ≤ nv l := by
  rw [nv_split l k h]
  have : 1 ≤ 1000000000 ^ k := Nat.pow_pos (by omega)
  have := Nat.mul_le_mul this (Nat.le_refl (nv (l.drop k)))
  omega
theorem digs_step {n m : Nat} {xs : List Nat} (h : digs n = xs ++ digs m) (hm : m ≠ 0) : digs n = (xs ++ [m % 1000000000]) ++ digs (m / 1000000000) := by
  rw [h, digs_pos hm]; simp

/-- -1, 0 or 1. -/
def cmpN (x y : Nat) : Int := if x < y then -1 else if y < x then 1 else 0
theorem cmpN_lt {x y : Nat} (h : x < y) : cmpN x y = -1 := by simp [cmpN, h]
theorem cmpN_gt {x y : Nat} (h : y < x) : cmpN x y = 1 := by simp [cmpN, h]; omega
theorem cmpN_eq {x y : Nat} (h : x = y) : cmpN x y = 0 := by subst h; simp [cmpN]
theorem lt_of_ln {x y : Nat} (h : ln x < ln y) : x < y := by
  rcases Nat.lt_or_ge x y with h1 | h1
  · exact h1
  · have := ln_mono h1; omega
/-- The first limb from the top that differs decides. -/
theorem nv_lt_of {a b : List Nat} {k : Nat} (ha : ∀ x ∈ a, x < 1000000000) (hk : k < a.length) (hk' : k < b.length) (he : a.drop (k + 1) = b.drop (k + 1)) (hlt : a[k] < b[k]) : nv a < nv b := by
  rw [nv_split a k (by omega), nv_split b k (by omega), nv_drop a k hk, nv_drop b k hk', he]
  have h1 := nv_lt (a.take k) (fun x hx => ha x (List.mem_of_mem_take hx))
  rw [List.length_take, Nat.min_eq_left (by omega)] at h1
  have h2 : 1000000000 ^ k * (a[k] + 1000000000 * nv (b.drop (k + 1))) + 1000000000 ^ k ≤ 1000000000 ^ k * (b[k] + 1000000000 * nv (b.drop (k + 1))) := by
    rw [← Nat.mul_succ]
    exact Nat.mul_le_mul (Nat.le_refl _) (by omega)
  omega

theorem digs_take {ns : List Nat} (hlt : ∀ a ∈ ns, a < 1000000000) : digs (nv ns) = ns.take (ln (nv ns)) ∧ ln (nv ns) ≤ ns.length := by
  have key : ∃ n, n ≤ ns.length ∧ (∀ j (hj : j < ns.length), n ≤ j → ns[j] = 0) ∧ (n = 0 ∨ ∃ h : n - 1 < ns.length, ns[n - 1] ≠ 0) := by
    suffices H : ∀ k, k ≤ ns.length → (∀ j (hj : j < ns.length), k ≤ j → ns[j] = 0) → ∃ n, n ≤ ns.length ∧ (∀ j (hj : j < ns.length), n ≤ j → ns[j] = 0) ∧ (n = 0 ∨ ∃ h : n - 1 < ns.length, ns[n - 1] ≠ 0) from
      H ns.length (Nat.le_refl _) (fun j hj h => absurd hj (by omega))
    intro k
    induction k with
    | zero => exact fun hk h0 => ⟨0, hk, h0, .inl rfl⟩
    | succ k ih =>
      intro hk h0
      by_cases e : ns[k]'(by omega) = 0
      · refine ih (by omega) (fun j hj h => ?_)
        by_cases e' : j = k
        · subst e'; exact e
        · exact h0 j hj (by omega)
      · exact ⟨k + 1, hk, h0, .inr ⟨by omega, by simpa using e⟩⟩
  obtain ⟨n, h1, h2, h3⟩ := key
  have e := digs_trim hlt n h1 h2 h3
  have e2 : ln (nv ns) = n := by rw [ln, e, List.length_take]; omega
  rw [e2]
  exact ⟨e, h1⟩
/-- A list as long as its number's canonical limbs is canonical. -/
theorem digs_of_len {l : List Nat} (h : ∀ a ∈ l, a < 1000000000) (hl : l.length ≤ ln (nv l)) : digs (nv l) = l := by
  rw [(digs_take h).1, List.take_of_length_le hl]
theorem nv_take' (l : List Nat) (k : Nat) : nv (l.take (k + 1)) = nv (l.take k) + 1000000000 ^ k * l.getD k 0 := by
  by_cases h : k < l.length
  · rw [nv_take l k h]; simp [h]
  · rw [List.take_of_length_le (by omega), List.take_of_length_le (by omega)]
    simp [List.getElem?_eq_none (by omega : l.length ≤ k)]
/-- One step of an addition. -/
theorem add_step {N P a b c S k : Nat} (h : N + 1000000000 ^ k * c = P) (hS : S = a + c + b) :
    N + 1000000000 ^ k * (S % 1000000000) + 1000000000 ^ (k + 1) * (S / 1000000000) = P + 1000000000 ^ k * a + 1000000000 ^ k * b := by
  rw [Nat.pow_succ, Nat.mul_assoc, Nat.add_assoc, ← Nat.mul_add, Nat.mod_add_div, hS, ← h, Nat.mul_add, Nat.mul_add]
  omega
/-- One step of a subtraction. -/
theorem sub_step {N P Q a b c d c' k : Nat} (h : P + 1000000000 ^ k * c = N + Q) (hd : a + 1000000000 * c' = d + b + c) :
    P + 1000000000 ^ k * a + 1000000000 ^ (k + 1) * c' = N + 1000000000 ^ k * d + (Q + 1000000000 ^ k * b) := by
  have e : 1000000000 ^ k * a + 1000000000 ^ (k + 1) * c' = 1000000000 ^ k * d + 1000000000 ^ k * b + 1000000000 ^ k * c := by
    rw [Nat.pow_succ, Nat.mul_assoc, ← Nat.mul_add, hd, Nat.mul_add, Nat.mul_add]
  omega
theorem sub_end {N x y c k : Nat} (h : x + 1000000000 ^ k * c = N + y) (hN : N < 1000000000 ^ k) (hy : y ≤ x) (hc : c ≤ 1) : N = x - y := by
  by_cases e : c = 0
  · subst e; omega
  · obtain rfl : c = 1 := by omega
    omega
theorem nv_set (l : List Nat) (p v : Nat) (h : p < l.length) : nv (l.set p v) + 1000000000 ^ p * l[p] = nv l + 1000000000 ^ p * v := by
  induction l generalizing p with
  | nil => simp at h
  | cons a l ih =>
    cases p with
    | zero => simp [nv]; omega
    | succ p =>
      have := ih p (by simpa using h)
      simp only [List.set_cons_succ, nv, List.getElem_cons_succ, Nat.pow_succ]
      rw [Nat.mul_comm (1000000000 ^ p) 1000000000, Nat.mul_assoc, Nat.mul_assoc]
      omega
theorem set_lt {l : List Nat} {p v : Nat} (h : ∀ a ∈ l, a < 1000000000) (hv : v < 1000000000) : ∀ a ∈ l.set p v, a < 1000000000 := by
  intro a ha
  rcases List.mem_or_eq_of_mem_set ha with h1 | h1
  · exact h a h1
  · omega
/-- One step of the inner loop of a multiplication. -/
theorem mul_step {o : List Nat} {i j c S a b T Y : Nat} (hp : i + j < o.length) (h : nv o + 1000000000 ^ (i + j) * c = T + a * (1000000000 ^ i * Y)) (hS : S = a * b + o[i + j] + c) :
    nv (o.set (i + j) (S % 1000000000)) + 1000000000 ^ (i + (j + 1)) * (S / 1000000000) = T + a * (1000000000 ^ i * (Y + 1000000000 ^ j * b)) := by
  have h1 := nv_set o (i + j) (S % 1000000000) hp
  have h2 : 1000000000 ^ (i + j) * S = 1000000000 ^ (i + j) * (S % 1000000000) + 1000000000 ^ (i + (j + 1)) * (S / 1000000000) := by
    rw [show i + (j + 1) = (i + j) + 1 from by omega, Nat.pow_succ, Nat.mul_assoc, ← Nat.mul_add, Nat.mod_add_div]
  have h3 : a * (1000000000 ^ i * (Y + 1000000000 ^ j * b)) = a * (1000000000 ^ i * Y) + 1000000000 ^ (i + j) * (a * b) := by
    rw [Nat.mul_add, Nat.mul_add, Nat.pow_add]
    congr 1
    rw [← Nat.mul_assoc, ← Nat.mul_assoc, ← Nat.mul_assoc]
    rw [Nat.mul_comm a (1000000000 ^ i), Nat.mul_right_comm (1000000000 ^ i) a]
  have h4 : 1000000000 ^ (i + j) * S = 1000000000 ^ (i + j) * (a * b) + 1000000000 ^ (i + j) * o[i + j] + 1000000000 ^ (i + j) * c := by
    rw [hS, Nat.mul_add, Nat.mul_add]
  omega
theorem mul_carry {a b q c : Nat} (ha : a < 1000000000) (hb : b < 1000000000) (hq : q < 1000000000) (hc : c < 1000000000) : a * b ≤ 999999998000000001 ∧ (a * b + q + c) / 1000000000 < 1000000000 := by
  have : a * b ≤ 999999999 * 999999999 := Nat.mul_le_mul (by omega) (by omega)
  omega
/-- The end of a row of a multiplication. -/
theorem mul_row {o : List Nat} {i m c a T y : Nat} (hp : i + m < o.length) (h0 : o[i + m] = 0) (h : nv o + 1000000000 ^ (i + m) * c = T * y + a * (1000000000 ^ i * y)) :
    nv (o.set (i + m) c) = (T + 1000000000 ^ i * a) * y := by
  have h1 := nv_set o (i + m) c hp
  rw [h0, Nat.mul_zero, Nat.add_zero] at h1
  rw [h1, h, Nat.add_mul]
  congr 1
  rw [← Nat.mul_assoc, Nat.mul_comm a]
/-- One step of a multiplication by a small number. -/
theorem small_step {o : List Nat} {k c S a m T : Nat} (hp : k < o.length) (h0 : o[k] = 0) (h : nv o + 1000000000 ^ k * c = T * m) (hS : S = a * m + c) :
    nv (o.set k (S % 1000000000)) + 1000000000 ^ (k + 1) * (S / 1000000000) = (T + 1000000000 ^ k * a) * m := by
  have h1 := nv_set o k (S % 1000000000) hp
  rw [h0, Nat.mul_zero, Nat.add_zero] at h1
  have h2 : 1000000000 ^ k * S = 1000000000 ^ k * (S % 1000000000) + 1000000000 ^ (k + 1) * (S / 1000000000) := by
    rw [Nat.pow_succ, Nat.mul_assoc, ← Nat.mul_add, Nat.mod_add_div]
  have h3 : 1000000000 ^ k * S = 1000000000 ^ k * a * m + 1000000000 ^ k * c := by rw [hS, Nat.mul_add, Nat.mul_assoc]
  rw [Nat.add_mul]
  omega
theorem small_end {o : List Nat} {k c T m : Nat} (hp : k < o.length) (h0 : o[k] = 0) (h : nv o + 1000000000 ^ k * c = T * m) : nv (o.set k c) = T * m := by
  have h1 := nv_set o k c hp
  rw [h0, Nat.mul_zero, Nat.add_zero] at h1
  omega
theorem nv_drop_set (o : List Nat) (j v : Nat) (hj : j < o.length) : nv ((o.set j v).drop j) = v + 1000000000 * nv (o.drop (j + 1)) := by
  rw [List.drop_eq_getElem_cons (by simpa using hj), nv]
  congr 1
  · simp
  · congr 2
    rw [List.drop_set_of_lt (by omega)]
/-- One step of a division by a small number. -/
theorem divs_step {xa o : List Nat} {j r S m : Nat} (hj : j < xa.length) (hj' : j < o.length) (h : nv (xa.drop (j + 1)) = m * nv (o.drop (j + 1)) + r) (hS : S = r * 1000000000 + xa[j]) :
    nv (xa.drop j) = m * nv ((o.set j (S / m)).drop j) + S % m := by
  rw [nv_drop xa j hj, nv_drop_set o j _ hj', h, Nat.mul_add, Nat.mul_add]
  have h1 := Nat.div_add_mod S m
  have h2 : 1000000000 * (m * nv (o.drop (j + 1))) = m * (1000000000 * nv (o.drop (j + 1))) := by rw [Nat.mul_left_comm]
  omega
theorem divs_lt {r a m : Nat} (hr : r < m) (ha : a < 1000000000) : (r * 1000000000 + a) / m < 1000000000 := by
  rw [Nat.div_lt_iff_lt_mul (by omega)]
  have : (r + 1) * 1000000000 ≤ m * 1000000000 := Nat.mul_le_mul (by omega) (Nat.le_refl _)
  omega
theorem divs_end {x q r m : Nat} (h : x = m * q + r) (hr : r < m) : q = x / m ∧ r = x % m := by
  subst h
  constructor
  · rw [Nat.mul_add_div (by omega), Nat.div_eq_of_lt hr, Nat.add_zero]
  · rw [Nat.mul_add_mod, Nat.mod_eq_of_lt hr]
end Go.Proofs.Ytoedmnalnpmleaa
