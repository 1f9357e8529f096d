/-
  Lists of rational numbers as polynomials: plain laws, no program in sight.
-/
import Derived.Test.YtkngegcfdabpoaaBinom
namespace Go.Proofs.Ytkngegcfdabpoaa

/-- The list without the zeros at its end. -/
def cutL : List Rat → List Rat
  | [] => []
  | a :: l => if cutL l = [] then (if a = 0 then [] else [a]) else a :: cutL l
theorem cutL_len (l : List Rat) : (cutL l).length ≤ l.length := by
  induction l with
  | nil => simp [cutL]
  | cons a l ih =>
    rw [cutL]
    split
    · split <;> simp
    · simp; omega
theorem cutL_getD (l : List Rat) : ∀ i, (cutL l).getD i 0 = l.getD i 0 := by
  induction l with
  | nil => intro i; simp [cutL]
  | cons a l ih =>
    intro i
    rw [cutL]
    split
    · rename_i h
      rw [h] at ih
      split
      · rename_i h0
        cases i with
        | zero => simp [h0]
        | succ i => have := ih i; simp at this ⊢; exact this
      · cases i with
        | zero => simp
        | succ i => have := ih i; simp at this ⊢; exact this
    · cases i with
      | zero => simp
      | succ i => have := ih i; simp at this ⊢; exact this
theorem cutL_none {l : List Rat} (h : ∀ i, l.getD i 0 = 0) : cutL l = [] := by
  induction l with
  | nil => rfl
  | cons a l ih =>
    rw [cutL, if_pos (ih fun i => by have := h (i + 1); simpa using this), if_pos (by have := h 0; simpa using this)]
theorem cutL_nil_iff {l : List Rat} : cutL l = [] ↔ ∀ i, l.getD i 0 = 0 := by
  constructor
  · intro h i
    rw [← cutL_getD, h]; simp
  · exact cutL_none
/-- The list depends on its elements alone, zeros behind its end. -/
theorem cutL_ext {l m : List Rat} (h : ∀ i, l.getD i 0 = m.getD i 0) : cutL l = cutL m := by
  induction l generalizing m with
  | nil =>
    rw [cutL]
    exact (cutL_none fun i => by rw [← h]; simp).symm
  | cons a l ih =>
    cases m with
    | nil =>
      rw [show cutL [] = [] from rfl]
      exact cutL_none fun i => by rw [h]; simp
    | cons b m =>
      have hab : a = b := by have := h 0; simpa using this
      subst hab
      have := ih (m := m) fun i => by have := h (i + 1); simpa using this
      rw [cutL, cutL, this]
/-- The list up to its last element that is not 0. -/
theorem cutL_take {l : List Rat} {n : Nat} (hn : n ≤ l.length) (h0 : ∀ j (hj : j < l.length), n ≤ j → l[j] = 0) (hl : n = 0 ∨ ∃ h : n - 1 < l.length, l[n - 1] ≠ 0) : cutL l = l.take n := by
  induction l generalizing n with
  | nil => simp [cutL]
  | cons a l ih =>
    cases n with
    | zero =>
      rw [List.take_zero]
      refine cutL_none fun i => ?_
      by_cases hi : i < (a :: l).length
      · have := h0 i hi (Nat.zero_le _)
        simp only [List.getD_eq_getElem?_getD, List.getElem?_eq_getElem hi, Option.getD_some]
        exact this
      · simp [List.getElem?_eq_none (by omega : (a :: l).length ≤ i)]
    | succ n =>
      have e := ih (n := n) (by simpa using hn) (fun j hj h => by
          have := h0 (j + 1) (by simpa using hj) (by omega)
          simpa using this) (by
          by_cases h : n = 0
          · exact .inl h
          · right
            rcases hl with hl | ⟨h1, h2⟩
            · omega
            · refine ⟨by simp at h1; omega, ?_⟩
              obtain ⟨m, rfl⟩ : ∃ m, n = m + 1 := ⟨n - 1, by omega⟩
              simpa using h2)
      rw [cutL, e, List.take_succ_cons]
      by_cases h : l.take n = []
      · rw [if_pos h]
        rcases hl with hl | ⟨h1, h2⟩
        · omega
        · have : n = 0 ∨ l = [] := by simpa using h
          have hn0 : n = 0 := by
            rcases this with h | h
            · exact h
            · subst h; simp at hn; exact hn
          subst hn0
          rw [if_neg (by simpa using h2)]; simp
      · rw [if_neg h]
theorem cutL_cutL (l : List Rat) : cutL (cutL l) = cutL l := cutL_ext (cutL_getD l)
/-- The last element of such a list is not 0. -/
theorem cutL_last (l : List Rat) : (cutL l).length = 0 ∨ (cutL l).getD ((cutL l).length - 1) 0 ≠ 0 := by
  induction l with
  | nil => left; rfl
  | cons a l ih =>
    rw [cutL]
    split
    · split
      · left; rfl
      · right; simpa
    · rename_i h
      right
      rcases ih with ih | ih
      · exact absurd (List.length_eq_zero_iff.1 ih) h
      · obtain ⟨k, hk⟩ : ∃ k, (cutL l).length = k + 1 := ⟨(cutL l).length - 1, by
          have : (cutL l).length ≠ 0 := fun e => h (List.length_eq_zero_iff.1 e)
          omega⟩
        rw [hk] at ih
        rw [List.length_cons, hk]
        simpa using ih

theorem getD_len {l : List Rat} {i : Nat} (h : l.length ≤ i) : l.getD i 0 = 0 := by simp [List.getElem?_eq_none h]
/-- The value counts any number of zeros behind the end. -/
theorem pat_more (p : List Rat) (x : Rat) {m : Nat} (h : p.length ≤ m) : pat p x = sm m (fun k => p.getD k 0 * bc x k) :=
  (sm_more h fun i h1 _ => by rw [getD_len h1]; grind).symm
theorem pat_ext {p q : List Rat} (h : ∀ i, p.getD i 0 = q.getD i 0) (x : Rat) : pat p x = pat q x := by
  rw [pat_more p x (Nat.le_max_left p.length q.length), pat_more q x (Nat.le_max_right p.length q.length)]
  exact sm_congr fun i _ => by rw [h]
theorem pat_cut (p : List Rat) (x : Rat) : pat (cutL p) x = pat p x := pat_ext (cutL_getD p) x
/-- Values decide. -/
theorem coef_of_values {m : Nat} {c d : Nat → Rat} (h : ∀ n : Nat, sm m (fun k => c k * bc (n : Rat) k) = sm m (fun k => d k * bc (n : Rat) k)) {k : Nat} (hk : k < m) : c k = d k := by
  have h1 := dk_poly0 m c k
  have h2 := dk_poly0 m d k
  rw [if_pos hk] at h1 h2
  rw [← h1, ← h2]
  exact dk_congr (n := k + 1) (fun i _ => h i) k 0 (by omega)
theorem cut_of_values {p q : List Rat} (h : ∀ n : Nat, pat p n = pat q n) : cutL p = cutL q := by
  apply cutL_ext
  intro i
  have := coef_of_values (m := i + p.length + q.length + 1) (c := fun k => p.getD k 0) (d := fun k => q.getD k 0) (fun n => by
    rw [← pat_more p n (by omega), ← pat_more q n (by omega)]; exact h n) (k := i) (by omega)
  exact this

/-- The list of Newton's form of m values. -/
def newton (m : Nat) (v : Nat → Rat) : List Rat := (List.range m).map fun k => dk v k 0
theorem newton_len (m : Nat) (v : Nat → Rat) : (newton m v).length = m := by simp [newton]
theorem newton_getD (m : Nat) (v : Nat → Rat) (k : Nat) : (newton m v).getD k 0 = if k < m then dk v k 0 else 0 := by
  unfold newton
  by_cases h : k < m
  · simp [h]
  · simp [h]
theorem newton_pat (m : Nat) (v : Nat → Rat) (n : Nat) (h : n < m) : pat (newton m v) n = v n := by
  rw [newton_at n v, pat, newton_len, sm_more (n := n + 1) (m := m) (by omega)]
  · apply sm_congr
    intro i hi
    rw [newton_getD, if_pos (by omega)]
  · intro i h1 h2
    rw [bc_nat_zero n i (by omega)]; grind
/-- The values of a polynomial of at most m coefficients give it back. -/
theorem newton_of (m : Nat) (c : Nat → Rat) (v : Nat → Rat) (h : ∀ i, i < m → v i = sm m (fun k => c k * bc (i : Rat) k)) (k : Nat) (hk : k < m) : (newton m v).getD k 0 = c k := by
  rw [newton_getD, if_pos hk, dk_congr (n := m) h k 0 (by omega), dk_poly0, if_pos hk]

/-- The sum of two lists. -/
def padd (p q : List Rat) : List Rat := (List.range (max p.length q.length)).map fun i => p.getD i 0 + q.getD i 0
theorem range_getD (m : Nat) (f : Nat → Rat) (i : Nat) : ((List.range m).map f).getD i 0 = if i < m then f i else 0 := by
  by_cases h : i < m
  · simp [h]
  · simp [h]
theorem padd_getD (p q : List Rat) (i : Nat) : (padd p q).getD i 0 = p.getD i 0 + q.getD i 0 := by
  unfold padd
  rw [range_getD]
  split
  · rfl
  · rw [getD_len (l := p) (by omega), getD_len (l := q) (by omega)]; grind
theorem padd_pat (p q : List Rat) (x : Rat) : pat (padd p q) x = pat p x + pat q x := by
  rw [pat_more p x (Nat.le_max_left p.length q.length), pat_more q x (Nat.le_max_right p.length q.length), ← sm_add]
  rw [show pat (padd p q) x = sm (max p.length q.length) (fun k => (padd p q).getD k 0 * bc x k) from pat_more _ _ (by simp [padd])]
  apply sm_congr
  intro i _
  rw [padd_getD]; grind

/-- The coefficients of a product. -/
def pmulC (p q : List Rat) (k : Nat) : Rat := sm p.length (fun a => sm q.length (fun b => p.getD a 0 * q.getD b 0 * pc a b k))
def pmul (p q : List Rat) : List Rat := (List.range (p.length + q.length - 1)).map (pmulC p q)
theorem pc_zero {a b k : Nat} (h : a + b < k) : pc a b k = 0 := by rw [pc, if_neg (by omega)]
theorem pmulC_sm (p q : List Rat) (x : Rat) {m : Nat} (h : p.length + q.length - 1 ≤ m) : sm m (fun k => pmulC p q k * bc x k) = pat p x * pat q x := by
  have e1 : sm m (fun k => pmulC p q k * bc x k) = sm m (fun k => sm p.length (fun a => sm q.length (fun b => p.getD a 0 * q.getD b 0 * (pc a b k * bc x k)))) := by
    apply sm_congr
    intro k _
    rw [pmulC, Rat.mul_comm, ← sm_mul]
    apply sm_congr
    intro a _
    rw [← sm_mul]
    apply sm_congr
    intro b _
    grind
  rw [e1, sm_swap]
  have e2 : pat p x * pat q x = sm p.length (fun a => pat q x * (p.getD a 0 * bc x a)) := by rw [sm_mul]; unfold pat; grind
  rw [e2]
  apply sm_congr
  intro a ha
  rw [sm_swap]
  have e3 : pat q x * (p.getD a 0 * bc x a) = sm q.length (fun b => p.getD a 0 * q.getD b 0 * (bc x a * bc x b)) := by
    rw [show pat q x * (p.getD a 0 * bc x a) = (p.getD a 0 * bc x a) * pat q x from by grind, pat, ← sm_mul]
    apply sm_congr
    intro b _
    grind
  rw [e3]
  apply sm_congr
  intro b hb
  rw [sm_mul, bc_prod]
  congr 1
  apply sm_more (by omega)
  intro i h1 _
  rw [pc_zero (by omega)]; grind
theorem pmul_getD (p q : List Rat) (k : Nat) : (pmul p q).getD k 0 = if k < p.length + q.length - 1 then pmulC p q k else 0 := range_getD _ _ _
theorem pmul_pat (p q : List Rat) (x : Rat) : pat (pmul p q) x = pat p x * pat q x := by
  rw [← pmulC_sm p q x (Nat.le_refl _), pat, show (pmul p q).length = p.length + q.length - 1 from by simp [pmul]]
  apply sm_congr
  intro k hk
  rw [pmul_getD, if_pos hk]

/-- The coefficients of p(x + c). -/
def pshC (p : List Rat) (c : Rat) (j : Nat) : Rat := sm p.length (fun k => if j ≤ k then p.getD k 0 * bc c (k - j) else 0)
def psh (p : List Rat) (c : Rat) : List Rat := (List.range p.length).map (pshC p c)
theorem psh_getD (p : List Rat) (c : Rat) (k : Nat) : (psh p c).getD k 0 = if k < p.length then pshC p c k else 0 := range_getD _ _ _
theorem psh_pat (p : List Rat) (c x : Rat) : pat (psh p c) x = pat p (x + c) := by
  rw [pat, show (psh p c).length = p.length from by simp [psh]]
  have e1 : sm p.length (fun k => (psh p c).getD k 0 * bc x k) = sm p.length (fun j => sm p.length (fun k => if j ≤ k then p.getD k 0 * bc c (k - j) * bc x j else 0)) := by
    apply sm_congr
    intro j hj
    rw [psh_getD, if_pos hj, pshC, Rat.mul_comm, ← sm_mul]
    apply sm_congr
    intro k _
    split <;> grind
  rw [e1, sm_swap, pat]
  apply sm_congr
  intro k hk
  rw [bc_vander, ← sm_mul]
  rw [sm_more (n := k + 1) (m := p.length) (by omega)]
  · apply sm_congr
    intro j hj
    rw [if_pos (by omega)]; grind
  · intro i h1 _
    rw [if_neg (by omega)]

/-- The value of the list a in powers. -/
def pwr (m : Nat) (a : Nat → Rat) (x : Rat) : Rat := sm m (fun i => a i * x ^ i)
theorem pow_bc (i : Nat) : ∃ s : Nat → Rat, (∀ x : Rat, x ^ i = sm (i + 1) (fun k => s k * bc x k)) ∧ s i = fac i := by
  induction i with
  | zero => exact ⟨fun _ => 1, fun x => by rw [sm_succ, sm_zero, bc_zero, Rat.pow_zero]; grind, rfl⟩
  | succ i ih =>
    obtain ⟨s, h1, h2⟩ := ih
    refine ⟨fun k => (if k ≤ i then (k : Rat) * s k else 0) + (if k = 0 then 0 else (k : Rat) * s (k - 1)), fun x => ?_, ?_⟩
    · rw [Rat.pow_succ, h1 x, Rat.mul_comm, ← sm_mul]
      have e1 : sm (i + 1) (fun k => x * (s k * bc x k)) = sm (i + 1) (fun k => (k : Rat) * s k * bc x k) + sm (i + 1) (fun k => ((k + 1 : Nat) : Rat) * s (k + 1 - 1) * bc x (k + 1)) := by
        rw [← sm_add]
        apply sm_congr
        intro k _
        have := bc_shift x k
        rw [cast_succ, Nat.add_sub_cancel]; grind
      rw [e1]
      have e2 : sm (i + 1) (fun k => (k : Rat) * s k * bc x k) = sm (i + 1 + 1) (fun k => (if k ≤ i then (k : Rat) * s k else 0) * bc x k) := by
        rw [sm_succ (i + 1), if_neg (by omega)]
        rw [sm_congr (g := fun k => (if k ≤ i then (k : Rat) * s k else 0) * bc x k) (fun k hk => by rw [if_pos (by omega)])]
        grind
      have e3 : sm (i + 1) (fun k => ((k + 1 : Nat) : Rat) * s (k + 1 - 1) * bc x (k + 1)) = sm (i + 1 + 1) (fun k => (if k = 0 then 0 else (k : Rat) * s (k - 1)) * bc x k) := by
        rw [sm_head (i + 1), if_pos rfl]
        rw [sm_congr (f := fun k => (if k + 1 = 0 then 0 else ((k + 1 : Nat) : Rat) * s (k + 1 - 1)) * bc x (k + 1)) (g := fun k => ((k + 1 : Nat) : Rat) * s (k + 1 - 1) * bc x (k + 1)) (fun k _ => by rw [if_neg (by omega)])]
        grind
      rw [e2, e3, ← sm_add]
      apply sm_congr
      intro k _
      grind
    · simp only
      rw [if_neg (by omega), if_neg (by omega), Nat.add_sub_cancel, h2, fac_succ, cast_succ]; grind
theorem pwr_unique (m : Nat) (a : Nat → Rat) (h : ∀ n : Nat, pwr m a n = 0) : ∀ i, i < m → a i = 0 := by
  induction m with
  | zero => intro i hi; omega
  | succ m ih =>
    have key : ∃ c : Nat → Rat, (∀ x : Rat, pwr m a x = sm m (fun k => c k * bc x k)) := by
      clear ih h
      induction m with
      | zero => exact ⟨fun _ => 0, fun x => rfl⟩
      | succ m ih =>
        obtain ⟨c, hc⟩ := ih
        obtain ⟨s, hs, _⟩ := pow_bc m
        refine ⟨fun k => (if k < m then c k else 0) + a m * s k, fun x => ?_⟩
        rw [pwr, sm_succ]
        have := hc x
        rw [pwr] at this
        rw [this, hs x, ← sm_mul]
        have e : sm m (fun k => c k * bc x k) = sm (m + 1) (fun k => (if k < m then c k else 0) * bc x k) := by
          rw [sm_succ, if_neg (by omega), sm_congr (g := fun k => (if k < m then c k else 0) * bc x k) (fun k hk => by rw [if_pos hk])]
          grind
        rw [e, ← sm_add]
        apply sm_congr
        intro k _
        grind
    obtain ⟨c, hc⟩ := key
    obtain ⟨s, hs, hs2⟩ := pow_bc m
    have e : ∀ n : Nat, sm (m + 1) (fun k => ((if k < m then c k else 0) + a m * s k) * bc (n : Rat) k) = sm (m + 1) (fun k => 0 * bc (n : Rat) k) := by
      intro n
      have h1 := h n
      rw [pwr, sm_succ] at h1
      have h2 := hc n
      rw [pwr] at h2
      rw [h2, hs n, ← sm_mul] at h1
      have e : sm m (fun k => c k * bc (n : Rat) k) = sm (m + 1) (fun k => (if k < m then c k else 0) * bc (n : Rat) k) := by
        rw [sm_succ, if_neg (by omega), sm_congr (g := fun k => (if k < m then c k else 0) * bc (n : Rat) k) (fun k hk => by rw [if_pos hk])]
        grind
      rw [e, ← sm_add] at h1
      rw [sm_none (f := fun k => 0 * bc (n : Rat) k) (fun i _ => by grind), ← h1]
      apply sm_congr
      intro k _
      grind
    have h3 := coef_of_values e (k := m) (by omega)
    rw [if_neg (by omega), hs2] at h3
    have h4 := fac_ne m
    have h5 : a m = 0 := by
      have : a m * fac m = 0 := by grind
      rcases Rat.mul_eq_zero.1 this with h | h
      · exact h
      · exact absurd h h4
    intro i hi
    by_cases e : i = m
    · subst e; exact h5
    · refine ih (fun n => ?_) i (by omega)
      have h1 := h n
      rw [pwr, sm_succ, h5] at h1
      rw [pwr]
      grind
end Go.Proofs.Ytkngegcfdabpoaa
