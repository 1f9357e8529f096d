/-
  Binomial coefficients of rational numbers, and polynomials over them: plain laws, no program in sight.
-/
namespace Go.Proofs.Ytkngegcfdabpoaa

theorem cast_succ (k : Nat) : ((k + 1 : Nat) : Rat) = (k : Rat) + 1 := by simp
theorem cast_succ_ne (k : Nat) : (k : Rat) + 1 ≠ 0 := by
  rw [← cast_succ]
  intro h
  have := Rat.natCast_eq_zero_iff.1 h
  omega

/-- x (x - 1) .. (x - k + 1) / k!. -/
def bc (x : Rat) : Nat → Rat
  | 0 => 1
  | k + 1 => bc x k * (x - (k : Rat)) / ((k : Rat) + 1)
theorem bc_zero (x : Rat) : bc x 0 = 1 := rfl
theorem bc_succ (x : Rat) (k : Nat) : bc x (k + 1) = bc x k * (x - (k : Rat)) / ((k : Rat) + 1) := rfl
theorem bc_step (x : Rat) (k : Nat) : bc x (k + 1) * ((k : Rat) + 1) = bc x k * (x - (k : Rat)) := by
  rw [bc_succ, Rat.div_mul_cancel (cast_succ_ne k)]
theorem bc_up (x : Rat) (k : Nat) : bc (x + 1) (k + 1) * ((k : Rat) + 1) = (x + 1) * bc x k := by
  induction k with
  | zero => rw [bc_step, bc_zero, bc_zero]; grind
  | succ k ih =>
    rw [bc_step]
    have h1 := bc_step x k
    have h2 := cast_succ_ne k
    rw [cast_succ]
    have e : bc (x + 1) (k + 1) * (x + 1 - (k + 1)) * ((k : Rat) + 1) = (x + 1) * bc x (k + 1) * ((k : Rat) + 1) := by grind
    have := congrArg (· / ((k : Rat) + 1)) e
    simp only [Rat.mul_div_cancel h2] at this
    exact this
/-- Pascal's rule. -/
theorem bc_pascal (x : Rat) (k : Nat) : bc (x + 1) (k + 1) = bc x k + bc x (k + 1) := by
  have h1 := bc_up x k
  have h2 := bc_step x k
  have h3 := cast_succ_ne k
  have e : bc (x + 1) (k + 1) * ((k : Rat) + 1) = (bc x k + bc x (k + 1)) * ((k : Rat) + 1) := by grind
  have := congrArg (· / ((k : Rat) + 1)) e
  simp only [Rat.mul_div_cancel h3] at this
  exact this
theorem bc_zero_succ (k : Nat) : bc 0 (k + 1) = 0 := by
  induction k with
  | zero =>
    rw [bc_succ]
    have z : ((0 : Nat) : Rat) = 0 := rfl
    rw [z]; grind
  | succ k ih => rw [bc_succ, ih]; simp [Rat.div_def]
/-- Behind a place where the product is zero it stays so. -/
theorem bc_nat_zero (n k : Nat) (h : n < k) : bc (n : Rat) k = 0 := by
  induction k with
  | zero => omega
  | succ k ih =>
    rw [bc_succ]
    by_cases e : n = k
    · subst e; rw [show (n : Rat) - n = 0 from by grind]; simp [Rat.div_def]
    · rw [ih (by omega)]; simp [Rat.div_def]

/-- The sum of f i for i below n. -/
def sm : Nat → (Nat → Rat) → Rat
  | 0, _ => 0
  | n + 1, f => sm n f + f n
theorem sm_zero (f : Nat → Rat) : sm 0 f = 0 := rfl
theorem sm_succ (n : Nat) (f : Nat → Rat) : sm (n + 1) f = sm n f + f n := rfl
theorem sm_congr {n : Nat} {f g : Nat → Rat} (h : ∀ i, i < n → f i = g i) : sm n f = sm n g := by
  induction n with
  | zero => rfl
  | succ n ih => rw [sm_succ, sm_succ, ih (fun i hi => h i (by omega)), h n (by omega)]
theorem sm_none {n : Nat} {f : Nat → Rat} (h : ∀ i, i < n → f i = 0) : sm n f = 0 := by
  induction n with
  | zero => rfl
  | succ n ih => rw [sm_succ, ih (fun i hi => h i (by omega)), h n (by omega)]; grind
theorem sm_add (n : Nat) (f g : Nat → Rat) : sm n (fun i => f i + g i) = sm n f + sm n g := by
  induction n with
  | zero => rw [sm_zero, sm_zero, sm_zero]; grind
  | succ n ih => rw [sm_succ, sm_succ, sm_succ, ih]; grind
theorem sm_mul (n : Nat) (c : Rat) (f : Nat → Rat) : sm n (fun i => c * f i) = c * sm n f := by
  induction n with
  | zero => rw [sm_zero, sm_zero]; grind
  | succ n ih => rw [sm_succ, sm_succ, ih]; grind
theorem sm_head (n : Nat) (f : Nat → Rat) : sm (n + 1) f = f 0 + sm n (fun i => f (i + 1)) := by
  induction n with
  | zero => rw [sm_succ, sm_zero, sm_zero]; grind
  | succ n ih => rw [sm_succ, ih, sm_succ]; grind
theorem sm_more {n m : Nat} {f : Nat → Rat} (hnm : n ≤ m) (h : ∀ i, n ≤ i → i < m → f i = 0) : sm m f = sm n f := by
  induction m with
  | zero => have : n = 0 := by omega
            subst this; rfl
  | succ m ih =>
    by_cases e : n = m + 1
    · subst e; rfl
    · rw [sm_succ, ih (by omega) (fun i h1 h2 => h i h1 (by omega)), h m (by omega) (by omega)]; grind
theorem sm_swap (n m : Nat) (f : Nat → Nat → Rat) : sm n (fun i => sm m (fun j => f i j)) = sm m (fun j => sm n (fun i => f i j)) := by
  induction n with
  | zero => rw [sm_zero]; exact (sm_none fun _ _ => rfl).symm
  | succ n ih => rw [sm_succ, ih, ← sm_add]; rfl
/-- Only one place counts. -/
theorem sm_one {n k : Nat} {f : Nat → Rat} (hk : k < n) (h : ∀ i, i < n → i ≠ k → f i = 0) : sm n f = f k := by
  induction n with
  | zero => omega
  | succ n ih =>
    rw [sm_succ]
    by_cases e : k = n
    · subst e; rw [sm_none (fun i hi => h i (by omega) (by omega))]; grind
    · rw [ih (by omega) (fun i h1 h2 => h i (by omega) h2), h n (by omega) (by omega)]; grind

/-- The value of the list p at x in the binomial basis. -/
def pat (p : List Rat) (x : Rat) : Rat := sm p.length (fun k => p.getD k 0 * bc x k)
/-- Vandermonde's rule. -/
theorem bc_vander (x y : Rat) (k : Nat) : bc (x + y) k = sm (k + 1) (fun j => bc x j * bc y (k - j)) := by
  induction k with
  | zero => rw [sm_succ, sm_zero, bc_zero, bc_zero, bc_zero]; grind
  | succ k ih =>
    have h3 := cast_succ_ne k
    have hs := bc_step (x + y) k
    have e : bc (x + y) (k + 1) * ((k : Rat) + 1) = sm (k + 1 + 1) (fun j => bc x j * bc y (k + 1 - j)) * ((k : Rat) + 1) := by
      rw [hs, ih]
      have e1 : sm (k + 1) (fun j => bc x j * bc y (k - j)) * (x + y - k) = sm (k + 1) (fun j => bc x j * (x - j) * bc y (k - j)) + sm (k + 1) (fun j => bc x j * (bc y (k - j) * (y - ((k - j : Nat) : Rat)))) := by
        rw [← sm_add, Rat.mul_comm, ← sm_mul]
        apply sm_congr
        intro j hj
        have : ((k - j : Nat) : Rat) + (j : Rat) = k := by rw [← Rat.natCast_add]; congr 1; omega
        grind
      have e2 : sm (k + 1) (fun j => bc x j * (x - j) * bc y (k - j)) = sm (k + 1 + 1) (fun j => (j : Rat) * (bc x j * bc y (k + 1 - j))) := by
        rw [sm_head (k + 1)]
        have : sm (k + 1) (fun j => bc x j * (x - j) * bc y (k - j)) = sm (k + 1) (fun i => ((i + 1 : Nat) : Rat) * (bc x (i + 1) * bc y (k + 1 - (i + 1)))) := by
          apply sm_congr
          intro j hj
          have := bc_step x j
          rw [cast_succ, show k + 1 - (j + 1) = k - j from by omega]
          grind
        rw [this]
        have z : ((0 : Nat) : Rat) = 0 := rfl
        rw [z]
        grind
      have e3 : sm (k + 1) (fun j => bc x j * (bc y (k - j) * (y - ((k - j : Nat) : Rat)))) = sm (k + 1 + 1) (fun j => ((k + 1 - j : Nat) : Rat) * (bc x j * bc y (k + 1 - j))) := by
        rw [sm_succ (k + 1)]
        have : sm (k + 1) (fun j => bc x j * (bc y (k - j) * (y - ((k - j : Nat) : Rat)))) = sm (k + 1) (fun j => ((k + 1 - j : Nat) : Rat) * (bc x j * bc y (k + 1 - j))) := by
          apply sm_congr
          intro j hj
          have := bc_step y (k - j)
          rw [show k + 1 - j = (k - j) + 1 from by omega, cast_succ]
          grind
        rw [this, Nat.sub_self]
        have z : ((0 : Nat) : Rat) = 0 := rfl
        rw [z]
        grind
      rw [e1, e2, e3, ← sm_add, Rat.mul_comm (sm _ _), ← sm_mul]
      apply sm_congr
      intro j hj
      have : ((k + 1 - j : Nat) : Rat) + (j : Rat) = (k : Rat) + 1 := by rw [← cast_succ, ← Rat.natCast_add]; congr 1; omega
      grind
    have := congrArg (· / ((k : Rat) + 1)) e
    simp only [Rat.mul_div_cancel h3] at this
    exact this

/-- The factorial. -/
def fac : Nat → Nat
  | 0 => 1
  | n + 1 => fac n * (n + 1)
theorem fac_ne (n : Nat) : (fac n : Rat) ≠ 0 := by
  induction n with
  | zero => decide +kernel
  | succ n ih =>
    have h := cast_succ_ne n
    rw [fac, Rat.natCast_mul, cast_succ]
    intro e
    rcases Rat.mul_eq_zero.1 e with h1 | h1
    · exact ih h1
    · exact h h1
theorem fac_succ (n : Nat) : (fac (n + 1) : Rat) = fac n * ((n : Rat) + 1) := by rw [fac, Rat.natCast_mul, cast_succ]
/-- The binomial coefficient of a natural number. -/
theorem bc_fac (n k : Nat) (h : k ≤ n) : bc (n : Rat) k * (fac k * fac (n - k)) = fac n := by
  induction k with
  | zero => rw [bc_zero, Nat.sub_zero]; have : ((fac 0 : Nat) : Rat) = 1 := rfl
            rw [this]; grind
  | succ k ih =>
    have h1 := ih (by omega)
    have h2 := bc_step (n : Rat) k
    obtain ⟨m, rfl⟩ : ∃ m, n = k + 1 + m := ⟨n - (k + 1), by omega⟩
    rw [show k + 1 + m - k = m + 1 from by omega, fac_succ] at h1
    rw [show k + 1 + m - (k + 1) = m from by omega, fac_succ]
    have e : ((k + 1 + m : Nat) : Rat) = k + 1 + m := by rw [Rat.natCast_add, cast_succ]
    rw [← h1]
    rw [e] at h2 ⊢
    grind
theorem bc_div (n k : Nat) (h : k ≤ n) : bc (n : Rat) k = fac n / (fac k * fac (n - k)) := by
  rw [← bc_fac n k h]
  have h1 := fac_ne k
  have h2 := fac_ne (n - k)
  have h3 : (fac k : Rat) * (fac (n - k)) ≠ 0 := fun e => by
    rcases Rat.mul_eq_zero.1 e with h | h
    · exact h1 h
    · exact h2 h
  rw [Rat.mul_div_cancel h3]

/-- The coefficients of a product of two binomial coefficients. -/
def pc (a b k : Nat) : Rat := if max a b ≤ k ∧ k ≤ a + b then bc (k : Rat) a * bc (a : Rat) (k - b) else 0
theorem pc_fac (a b k : Nat) (h1 : max a b ≤ k) (h2 : k ≤ a + b) : pc a b k = fac k / (fac (k - a) * fac (k - b) * fac (a + b - k)) := by
  rw [pc, if_pos ⟨h1, h2⟩, bc_div k a (by omega), bc_div a (k - b) (by omega), show a - (k - b) = a + b - k from by omega]
  have e1 := fac_ne a
  have e2 := fac_ne (k - a)
  have e3 := fac_ne (k - b)
  have e4 := fac_ne (a + b - k)
  grind
theorem pc_eq (a b k : Nat) : pc a b k = if b ≤ k then bc (k : Rat) a * bc (a : Rat) (k - b) else 0 := by
  unfold pc
  by_cases h : max a b ≤ k ∧ k ≤ a + b
  · rw [if_pos h, if_pos (by omega)]
  · rw [if_neg h]
    split
    · by_cases h1 : k < a
      · rw [bc_nat_zero k a h1]; grind
      · rw [bc_nat_zero a (k - b) (by omega)]; grind
    · rfl
theorem bc_down (k a : Nat) : ((k : Rat) + 1) * bc (k : Rat) a = bc ((k : Rat) + 1) a * ((k : Rat) + 1 - a) := by
  have h1 := bc_up (k : Rat) a
  have h2 := bc_step ((k : Rat) + 1) a
  grind
theorem pc_step (a b k : Nat) : ((b : Rat) + 1) * pc a (b + 1) k = pc a b k * ((k : Rat) - b) + (if k = 0 then 0 else (k : Rat) * pc a b (k - 1)) := by
  rw [pc_eq, pc_eq, pc_eq]
  by_cases h : b + 1 ≤ k
  · obtain ⟨m, rfl⟩ : ∃ m, k = b + m + 1 := ⟨k - b - 1, by omega⟩
    rw [if_pos h, if_pos (by omega), if_neg (by omega), if_pos (by omega), show b + m + 1 - (b + 1) = m from by omega, show b + m + 1 - b = m + 1 from by omega, show b + m + 1 - 1 = b + m from by omega, show b + m - b = m from by omega]
    have h1 := bc_step (a : Rat) m
    have h2 := bc_down (b + m) a
    have e1 : ((b + m + 1 : Nat) : Rat) = (b : Rat) + m + 1 := by rw [cast_succ, Rat.natCast_add]
    have e2 : ((b + m : Nat) : Rat) = (b : Rat) + m := by rw [Rat.natCast_add]
    rw [e2] at h2
    rw [e1, e2]
    grind
  · rw [if_neg h]
    by_cases e : k = b
    · subst e
      rw [if_pos (by omega)]
      split
      · grind
      · rw [if_neg (by omega)]; grind
    · rw [if_neg (by omega)]
      split
      · grind
      · rw [if_neg (by omega)]; grind
theorem bc_shift (x : Rat) (k : Nat) : x * bc x k = (k : Rat) * bc x k + ((k : Rat) + 1) * bc x (k + 1) := by
  have := bc_step x k
  grind
/-- The product of two binomial coefficients, in the binomial basis. -/
theorem bc_prod (x : Rat) (a b : Nat) : bc x a * bc x b = sm (a + b + 1) (fun k => pc a b k * bc x k) := by
  induction b with
  | zero =>
    rw [bc_zero, sm_one (k := a) (by omega)]
    · rw [pc_eq, if_pos (by omega), Nat.sub_zero, bc_div a a (Nat.le_refl _), Nat.sub_self]
      have h := fac_ne a
      have h0 : ((fac 0 : Nat) : Rat) = 1 := rfl
      rw [h0]
      grind
    · intro i h1 h2
      rw [pc_eq, if_pos (by omega), bc_nat_zero i a (by omega)]; grind
  | succ b ih =>
    have h3 := cast_succ_ne b
    have hs := bc_step x b
    have e : (bc x a * bc x (b + 1)) * ((b : Rat) + 1) = sm (a + (b + 1) + 1) (fun k => pc a (b + 1) k * bc x k) * ((b : Rat) + 1) := by
      have e1 : (bc x a * bc x (b + 1)) * ((b : Rat) + 1) = (x - b) * (bc x a * bc x b) := by grind
      rw [e1, ih, ← sm_mul]
      have e2 : sm (a + b + 1) (fun k => (x - b) * (pc a b k * bc x k)) = sm (a + b + 1) (fun k => pc a b k * ((k : Rat) - b) * bc x k) + sm (a + b + 1) (fun k => ((k + 1 : Nat) : Rat) * pc a b (k + 1 - 1) * bc x (k + 1)) := by
        rw [← sm_add]
        apply sm_congr
        intro k hk
        have := bc_shift x k
        rw [cast_succ, Nat.add_sub_cancel]
        grind
      have e3 : sm (a + b + 1) (fun k => pc a b k * ((k : Rat) - b) * bc x k) = sm (a + (b + 1) + 1) (fun k => pc a b k * ((k : Rat) - b) * bc x k) := by
        rw [show a + (b + 1) + 1 = a + b + 1 + 1 from by omega, sm_succ (a + b + 1), pc, if_neg (by omega)]; grind
      have e4 : sm (a + b + 1) (fun k => ((k + 1 : Nat) : Rat) * pc a b (k + 1 - 1) * bc x (k + 1)) = sm (a + (b + 1) + 1) (fun k => (if k = 0 then 0 else (k : Rat) * pc a b (k - 1)) * bc x k) := by
        rw [show a + (b + 1) + 1 = a + b + 1 + 1 from by omega, sm_head (a + b + 1), if_pos rfl]
        have : sm (a + b + 1) (fun k => ((k + 1 : Nat) : Rat) * pc a b (k + 1 - 1) * bc x (k + 1)) = sm (a + b + 1) (fun i => (if i + 1 = 0 then 0 else ((i + 1 : Nat) : Rat) * pc a b (i + 1 - 1)) * bc x (i + 1)) := by
          apply sm_congr
          intro i hi
          rw [if_neg (by omega)]
        rw [this]; grind
      rw [e2, e3, e4, ← sm_add, Rat.mul_comm (sm _ _), ← sm_mul]
      apply sm_congr
      intro k hk
      have := pc_step a b k
      grind
    have := congrArg (· / ((b : Rat) + 1)) e
    simp only [Rat.mul_div_cancel h3] at this
    exact this

/-- Differences of values at the natural numbers. -/
def dl (v : Nat → Rat) : Nat → Rat := fun i => v (i + 1) - v i
def dk (v : Nat → Rat) : Nat → Nat → Rat
  | 0 => v
  | k + 1 => dl (dk v k)
theorem dk_dl (v : Nat → Rat) (k : Nat) : dk (dl v) k = dk v (k + 1) := by
  induction k with
  | zero => rfl
  | succ k ih => rw [dk, ih]; rfl
/-- Newton's form has the values. -/
theorem newton_at (n : Nat) : ∀ v : Nat → Rat, v n = sm (n + 1) (fun k => dk v k 0 * bc (n : Rat) k) := by
  induction n with
  | zero => intro v; rw [sm_succ, sm_zero, bc_zero]; show _ = 0 + v 0 * 1; grind
  | succ n ih =>
    intro v
    have h1 := ih v
    have h2 := ih (dl v)
    have e : v (n + 1) = v n + dl v n := by unfold dl; grind
    rw [e, h1, h2]
    have e1 : sm (n + 1) (fun k => dk (dl v) k 0 * bc (n : Rat) k) = sm (n + 1) (fun k => dk v (k + 1) 0 * bc (n : Rat) k) := sm_congr fun k _ => by rw [dk_dl]
    have e2 : sm (n + 1) (fun k => dk v k 0 * bc (n : Rat) k) = sm (n + 1 + 1) (fun k => dk v k 0 * bc (n : Rat) k) := by
      rw [sm_succ (n + 1), bc_nat_zero n (n + 1) (by omega)]; grind
    rw [e1, e2, sm_head (n + 1), sm_head (n + 1), cast_succ]
    have e3 : sm (n + 1) (fun i => dk v (i + 1) 0 * bc ((n : Rat) + 1) (i + 1)) = sm (n + 1) (fun i => dk v (i + 1) 0 * bc (n : Rat) (i + 1)) + sm (n + 1) (fun k => dk v (k + 1) 0 * bc (n : Rat) k) := by
      rw [← sm_add]
      apply sm_congr
      intro k hk
      rw [bc_pascal]; grind
    rw [e3, bc_zero, bc_zero]
    grind
/-- The differences of a polynomial's values are its coefficients. -/
theorem dk_poly (m : Nat) (c : Nat → Rat) (j : Nat) : ∀ i, dk (fun i => sm m (fun k => c k * bc (i : Rat) k)) j i = sm m (fun k => c k * (if j ≤ k then bc (i : Rat) (k - j) else 0)) := by
  induction j with
  | zero => intro i; rw [dk]; apply sm_congr; intro k _; rw [if_pos (by omega), Nat.sub_zero]
  | succ j ih =>
    intro i
    rw [dk, dl, ih, ih]
    have : sm m (fun k => c k * (if j ≤ k then bc ((i + 1 : Nat) : Rat) (k - j) else 0)) = sm m (fun k => c k * (if j + 1 ≤ k then bc (i : Rat) (k - (j + 1)) else 0)) + sm m (fun k => c k * (if j ≤ k then bc (i : Rat) (k - j) else 0)) := by
      rw [← sm_add]
      apply sm_congr
      intro k hk
      by_cases h : j + 1 ≤ k
      · obtain ⟨t, rfl⟩ : ∃ t, k = j + 1 + t := ⟨k - (j + 1), by omega⟩
        rw [if_pos (by omega), if_pos (by omega), if_pos (by omega), show j + 1 + t - j = t + 1 from by omega, show j + 1 + t - (j + 1) = t from by omega, cast_succ, bc_pascal]; grind
      · rw [if_neg h]
        by_cases e : j = k
        · subst e; rw [if_pos (by omega), if_pos (by omega), Nat.sub_self, bc_zero, bc_zero]; grind
        · rw [if_neg (by omega), if_neg (by omega)]; grind
    rw [this]; grind
theorem dk_poly0 (m : Nat) (c : Nat → Rat) (j : Nat) : dk (fun i => sm m (fun k => c k * bc (i : Rat) k)) j 0 = if j < m then c j else 0 := by
  rw [dk_poly]
  have z : ((0 : Nat) : Rat) = 0 := rfl
  rw [z]
  by_cases h : j < m
  · rw [if_pos h, sm_one h]
    · rw [if_pos (Nat.le_refl _), Nat.sub_self, bc_zero]; grind
    · intro i h1 h2
      by_cases h3 : j ≤ i
      · obtain ⟨t, rfl⟩ : ∃ t, i = j + (t + 1) := ⟨i - j - 1, by omega⟩
        rw [if_pos h3, show j + (t + 1) - j = t + 1 from by omega, bc_zero_succ]; grind
      · rw [if_neg h3]; grind
  · rw [if_neg h, sm_none]
    intro i hi
    rw [if_neg (by omega)]; grind
/-- Differences look at few values. -/
theorem dk_congr {v u : Nat → Rat} {n : Nat} (h : ∀ i, i < n → v i = u i) (k : Nat) : ∀ i, i + k < n → dk v k i = dk u k i := by
  induction k with
  | zero => intro i hi; exact h i (by omega)
  | succ k ih => intro i hi; rw [dk, dk, dl, dl, ih (i + 1) (by omega), ih i (by omega)]
end Go.Proofs.Ytkngegcfdabpoaa
