/-
  Fractions as rational numbers: plain laws, no program in sight.
-/
import Derived.Test.YtoedmnalnpmleaaLimbs
namespace Go.Proofs.Ytoedmnalnpmleaa

/-- The rational number with the sign s, the numerator n and the denominator d. -/
def fq (s : Bool) (n d : Nat) : Rat := mkRat (if s then -(n : Int) else n) d

theorem fq_zero (s : Bool) (d : Nat) : fq s 0 d = 0 := by cases s <;> simp [fq]
theorem fq_none (s : Bool) (n : Nat) : fq s n 0 = 0 := by simp [fq]
theorem fq_neg (s : Bool) (n d : Nat) : -fq s n d = fq (!s) n d := by
  cases s <;> simp [fq, Rat.neg_mkRat]
theorem fq_div (s : Bool) (n d : Nat) : fq s n d = (if s then -(n : Rat) else n) / (d : Rat) := by
  unfold fq
  rw [Rat.mkRat_eq_div]
  cases s <;> simp <;> rfl
theorem fq_mul (s t : Bool) (a b c d : Nat) : fq s a b * fq t c d = fq (s != t) (a * c) (b * d) := by
  unfold fq
  rw [Rat.mkRat_mul_mkRat]
  cases s <;> cases t <;> simp <;> congr 1 <;> grind
theorem fq_over (s t : Bool) (a b c d : Nat) : fq s a b / fq t c d = fq (s != t) (a * d) (b * c) := by
  by_cases hc : c = 0
  · subst hc; rw [fq_zero, Nat.mul_zero, fq_none]; simp [Rat.div_def]
  by_cases hd : d = 0
  · subst hd; rw [fq_none, Nat.mul_zero, fq_zero]; simp [Rat.div_def]
  by_cases hb : b = 0
  · subst hb; rw [fq_none, Nat.zero_mul, fq_none]; simp [Rat.div_def]
  rw [fq_div, fq_div, fq_div]
  have h1 : (c : Rat) ≠ 0 := by simpa using hc
  have h2 : (d : Rat) ≠ 0 := by simpa using hd
  have h3 : (b : Rat) ≠ 0 := by simpa using hb
  cases s <;> cases t <;> simp <;> grind
theorem fq_add_same (s : Bool) (a b c d : Nat) (hb : b ≠ 0) (hd : d ≠ 0) : fq s a b + fq s c d = fq s (a * d + c * b) (b * d) := by
  unfold fq
  rw [Rat.mkRat_add_mkRat _ _ hb hd]
  cases s <;> simp <;> grind
theorem fq_add_ge (s t : Bool) (a b c d : Nat) (hb : b ≠ 0) (hd : d ≠ 0) (hst : s ≠ t) (h : c * b ≤ a * d) : fq s a b + fq t c d = fq s (a * d - c * b) (b * d) := by
  unfold fq
  rw [Rat.mkRat_add_mkRat _ _ hb hd]
  have e : ((a * d - c * b : Nat) : Int) = (a : Int) * d - c * b := by rw [Int.ofNat_sub h]; simp
  rw [e]
  cases s <;> cases t <;> first | exact absurd rfl hst | (simp <;> grind)
theorem fq_num {s : Bool} {n d : Nat} (hd : d ≠ 0) : (fq s n d).num.natAbs = n / Nat.gcd n d := by
  unfold fq
  rw [Rat.num_mkRat, if_neg hd]
  cases s
  · simp [Nat.gcd_comm]
    exact Int.natAbs_natCast (n / Nat.gcd n d)
  · simp
    rw [Nat.gcd_comm d n]
    obtain ⟨k, hk⟩ := Nat.gcd_dvd_left n d
    have h0 : 0 < Nat.gcd n d := Nat.gcd_pos_of_pos_right n (Nat.pos_of_ne_zero hd)
    obtain ⟨g, hg⟩ : ∃ g, g = Nat.gcd n d := ⟨_, rfl⟩
    rw [← hg] at hk h0 ⊢
    subst hk
    rw [Nat.mul_div_cancel_left _ h0, show -((g * k : Nat) : Int) = (g : Int) * (-(k : Int)) from by grind, Int.mul_ediv_cancel_left _ (by omega)]
    simp
theorem fq_den {s : Bool} {n d : Nat} (hd : d ≠ 0) : (fq s n d).den = d / Nat.gcd n d := by
  unfold fq
  rw [Rat.den_mkRat, if_neg hd]
  cases s <;> simp [Nat.gcd_comm]
theorem fq_sign {s : Bool} {n d : Nat} (hd : d ≠ 0) : decide ((fq s n d).num < 0) = if n = 0 then false else s := by
  by_cases hn : n = 0
  · subst hn; simp [fq_zero]
  · rw [if_neg hn]
    have h0 : 0 < Nat.gcd n d := Nat.gcd_pos_of_pos_right n (Nat.pos_of_ne_zero hd)
    have h1 : 0 < n / Nat.gcd n d := Nat.div_pos (Nat.le_of_dvd (Nat.pos_of_ne_zero hn) (Nat.gcd_dvd_left n d)) h0
    have h2 := fq_num (s := s) (n := n) hd
    cases s
    · have h3 : 0 ≤ (fq false n d).num := by
        unfold fq
        rw [Rat.num_mkRat, if_neg hd]
        simp
        exact Int.ediv_nonneg (by omega) (by omega)
      simp; simpa using h3
    · have h3 : (fq true n d).num ≤ 0 := by
        have : 0 ≤ (fq false n d).num := by
          unfold fq
          rw [Rat.num_mkRat, if_neg hd]
          simp
          exact Int.ediv_nonneg (by omega) (by omega)
        have e : fq true n d = - fq false n d := by rw [fq_neg]; rfl
        rw [e, Rat.neg_num]
        omega
      simp only [decide_eq_true_eq]
      omega
/-- A rational is its own fraction. -/
theorem fq_self (q : Rat) : fq (decide (q.num < 0)) q.num.natAbs q.den = q := by
  unfold fq
  by_cases h : q.num < 0
  · rw [decide_eq_true h, if_pos rfl, show -((q.num.natAbs : Nat) : Int) = q.num from by omega, Rat.mkRat_self]
  · rw [decide_eq_false h, if_neg (by simp), show ((q.num.natAbs : Nat) : Int) = q.num from by omega, Rat.mkRat_self]
theorem fq_int (z : Int) : fq (decide (z < 0)) z.natAbs 1 = z := by
  exact fq_self (z : Rat)
theorem fq_nat (n : Nat) : fq false n 1 = n := by rw [fq_div]; simp; grind
theorem fq_ints (a b : Int) : fq (decide (a < 0) != decide (b < 0)) a.natAbs b.natAbs = (a : Rat) / (b : Rat) := by
  have h := fq_over (decide (a < 0)) (decide (b < 0)) a.natAbs 1 b.natAbs 1
  rw [fq_int, fq_int, Nat.mul_one, Nat.one_mul] at h
  exact h.symm
theorem fq_abs (s : Bool) (n d : Nat) : fq false n d = (fq s n d).abs := by
  have h0 : 0 ≤ fq false n d := by
    rw [← Rat.num_nonneg]
    by_cases hd : d = 0
    · subst hd; rw [fq_none]; simp
    · have := fq_sign (s := false) (n := n) hd
      simp at this
      simpa using this
  cases s
  · rw [Rat.abs_of_nonneg h0]
  · rw [show fq true n d = - fq false n d from by rw [fq_neg]; rfl, Rat.abs_neg, Rat.abs_of_nonneg h0]

/-- The sign of a number. -/
def sgn (q : Rat) : Int := if q < 0 then -1 else if q = 0 then 0 else 1
theorem fq_pos {n d : Nat} (hn : n ≠ 0) (hd : d ≠ 0) : 0 < fq false n d := by
  have h1 := fq_sign (s := false) (n := n) hd
  have h2 : (fq false n d).num ≠ 0 := by
    have := fq_num (s := false) (n := n) hd
    have h0 : 0 < Nat.gcd n d := Nat.gcd_pos_of_pos_right n (Nat.pos_of_ne_zero hd)
    have h1 : 0 < n / Nat.gcd n d := Nat.div_pos (Nat.le_of_dvd (Nat.pos_of_ne_zero hn) (Nat.gcd_dvd_left n d)) h0
    omega
  rw [if_neg hn] at h1
  simp at h1
  have h3 : fq false n d ≠ 0 := fun h => h2 (by rw [h]; rfl)
  exact Rat.lt_of_le_of_ne h1 (Ne.symm h3)
theorem sgn_zero : sgn 0 = 0 := by decide +kernel
theorem sgn_pos {q : Rat} (h : 0 < q) : sgn q = 1 := by unfold sgn; rw [if_neg (by grind), if_neg (by grind)]
theorem sgn_neg {q : Rat} (h : q < 0) : sgn q = -1 := by unfold sgn; rw [if_pos h]
theorem sgn_fq (s : Bool) (n d : Nat) (hd : d ≠ 0) : sgn (fq s n d) = if n = 0 then 0 else if s = true then -1 else 1 := by
  by_cases hn : n = 0
  · subst hn; rw [fq_zero, if_pos rfl, sgn_zero]
  · rw [if_neg hn]
    have hp := fq_pos hn hd
    cases s
    · rw [sgn_pos hp]; rfl
    · rw [show fq true n d = - fq false n d from by rw [fq_neg]; rfl, sgn_neg (by grind)]; rfl
theorem sgn_cases (q : Rat) : (q < 0 ∧ sgn q = -1) ∨ (q = 0 ∧ sgn q = 0) ∨ (0 < q ∧ sgn q = 1) := by
  by_cases h : q < 0
  · exact .inl ⟨h, sgn_neg h⟩
  by_cases h0 : q = 0
  · subst h0; exact .inr (.inl ⟨rfl, sgn_zero⟩)
  · have : 0 < q := by grind
    exact .inr (.inr ⟨this, sgn_pos this⟩)
/-- The comparison that the program makes. -/
theorem sgn_sub_lt {a b : Rat} (h : sgn a < sgn b) : sgn (a - b) = -1 := by
  apply sgn_neg
  rcases sgn_cases a with ⟨h1, e1⟩ | ⟨h1, e1⟩ | ⟨h1, e1⟩ <;> rcases sgn_cases b with ⟨h2, e2⟩ | ⟨h2, e2⟩ | ⟨h2, e2⟩ <;> first | omega | grind
theorem sgn_sub_gt {a b : Rat} (h : sgn b < sgn a) : sgn (a - b) = 1 := by
  apply sgn_pos
  rcases sgn_cases a with ⟨h1, e1⟩ | ⟨h1, e1⟩ | ⟨h1, e1⟩ <;> rcases sgn_cases b with ⟨h2, e2⟩ | ⟨h2, e2⟩ | ⟨h2, e2⟩ <;> first | omega | grind
theorem fq_sub (s : Bool) (a b c d : Nat) (hb : b ≠ 0) (hd : d ≠ 0) : fq s a b - fq s c d = mkRat (if s then (c * b : Int) - a * d else (a * d : Int) - c * b) (b * d) := by
  rw [Rat.sub_eq_add_neg, fq_neg]
  unfold fq
  rw [Rat.mkRat_add_mkRat _ _ hb hd]
  cases s <;> simp <;> grind
theorem sgn_mkRat (z : Int) {d : Nat} (hd : d ≠ 0) : sgn (mkRat z d) = z.sign := by
  have e : mkRat z d = fq (decide (z < 0)) z.natAbs d := by
    unfold fq
    by_cases h : z < 0
    · rw [decide_eq_true h, if_pos rfl, show -((z.natAbs : Nat) : Int) = z from by omega]
    · rw [decide_eq_false h, if_neg (by simp), show ((z.natAbs : Nat) : Int) = z from by omega]
  rw [e, sgn_fq _ _ _ hd]
  rcases Int.lt_trichotomy z 0 with h | h | h
  · rw [Int.sign_eq_neg_one_of_neg h, if_neg (by omega), if_pos (by simpa using h)]
  · subst h; rfl
  · rw [Int.sign_eq_one_of_pos h, if_neg (by omega), if_neg (by simp; omega)]
theorem cmp_fq (s : Bool) (a b c d : Nat) (hb : b ≠ 0) (hd : d ≠ 0) : sgn (fq s a b - fq s c d) = (if s = true then -1 else 1) * cmpN (a * d) (c * b) := by
  rw [fq_sub s a b c d hb hd, sgn_mkRat _ (Nat.mul_ne_zero hb hd)]
  rcases Nat.lt_trichotomy (a * d) (c * b) with h | h | h
  · rw [cmpN_lt h]
    cases s
    · rw [if_neg (by simp), if_neg (by simp), Int.sign_eq_neg_one_of_neg (by rw [← Int.natCast_mul, ← Int.natCast_mul]; omega)]; rfl
    · rw [if_pos rfl, if_pos rfl, Int.sign_eq_one_of_pos (by rw [← Int.natCast_mul, ← Int.natCast_mul]; omega)]; rfl
  · rw [cmpN_eq h]
    have e : (a : Int) * d - c * b = 0 := by rw [← Int.natCast_mul, ← Int.natCast_mul]; omega
    have e' : (c : Int) * b - a * d = 0 := by omega
    cases s
    · rw [if_neg (by simp), e]; rfl
    · rw [if_pos rfl, e']; rfl
  · rw [cmpN_gt h]
    cases s
    · rw [if_neg (by simp), if_neg (by simp), Int.sign_eq_one_of_pos (by rw [← Int.natCast_mul, ← Int.natCast_mul]; omega)]; rfl
    · rw [if_pos rfl, if_pos rfl, Int.sign_eq_neg_one_of_neg (by rw [← Int.natCast_mul, ← Int.natCast_mul]; omega)]; rfl

/-- Toward zero, and the integers beside. -/
theorem fq_floor {s : Bool} {n d : Nat} (hd : d ≠ 0) : (fq s n d).floor = if s = true then -((n / d : Nat) : Int) - (if n % d = 0 then 0 else 1) else ((n / d : Nat) : Int) := by
  have hD : (0 : Rat) < d := by rw [Rat.natCast_pos]; omega
  have key : ∀ z : Int, ∀ k : Int, k * d ≤ z → z < (k + 1) * d → (mkRat z d).floor = k := by
    intro z k h1 h2
    have e1 : (k : Rat) ≤ mkRat z d := by
      rw [Rat.mkRat_eq_div]
      have := (Rat.intCast_le_intCast (a := k * d) (b := z)).2 h1
      rw [Rat.intCast_mul] at this
      have hx : (z : Rat) / (d : Rat) * d = z := Rat.div_mul_cancel (by grind)
      have h3 : (k : Rat) * d ≤ (z : Rat) / (d : Rat) * d := by rw [hx]; exact this
      exact Rat.le_of_mul_le_mul_right h3 hD
    have e2 : mkRat z d < ((k + 1 : Int) : Rat) := by
      rw [Rat.mkRat_eq_div, Rat.div_lt_iff hD]
      have := (Rat.intCast_lt_intCast (a := z) (b := (k + 1) * d)).2 h2
      rw [Rat.intCast_mul] at this
      exact this
    have e3 := Rat.le_floor_iff.2 e1
    have e4 := Rat.floor_lt_iff.2 e2
    omega
  unfold fq
  have hdm := Nat.div_add_mod n d
  have hml := Nat.mod_lt n (Nat.pos_of_ne_zero hd)
  cases s
  · rw [if_neg (by simp), if_neg (by simp)]
    apply key
    · rw [← Int.natCast_mul]; rw [Nat.mul_comm] at hdm; omega
    · rw [Int.add_mul, ← Int.natCast_mul]; rw [Nat.mul_comm] at hdm; omega
  · rw [if_pos rfl, if_pos rfl]
    rw [Nat.mul_comm] at hdm
    split
    · apply key
      · rw [Int.sub_zero, Int.neg_mul, ← Int.natCast_mul]; omega
      · rw [Int.sub_zero, Int.add_mul, Int.neg_mul, ← Int.natCast_mul]; omega
    · apply key
      · rw [Int.sub_mul, Int.neg_mul, ← Int.natCast_mul]; omega
      · rw [show -((n / d : Nat) : Int) - 1 + 1 = -((n / d : Nat) : Int) from by omega, Int.neg_mul, ← Int.natCast_mul]; omega

/-- How many limbs a number has, numerator or denominator. -/
def qs (q : Rat) : Nat := max (ln q.num.natAbs) (ln q.den)
theorem qs_num (q : Rat) : ln q.num.natAbs ≤ qs q := by unfold qs; omega
theorem qs_den (q : Rat) : ln q.den ≤ qs q := by unfold qs; omega
theorem qs_fq {s : Bool} {n d : Nat} {B : Nat} (hn : ln n ≤ B) (hd : ln d ≤ B) (h1 : 1 ≤ B) : qs (fq s n d) ≤ B := by
  by_cases h : d = 0
  · subst h
    rw [fq_none]
    unfold qs
    rw [show ((0 : Rat).num.natAbs) = 0 from rfl, show (0 : Rat).den = 1 from rfl, ln_zero, ln, digs_small (by omega) (by omega)]
    simpa using h1
  · unfold qs
    rw [fq_num h, fq_den h]
    have e1 := ln_div n (Nat.gcd n d)
    have e2 := ln_div d (Nat.gcd n d)
    omega
theorem qs_pos (q : Rat) : 1 ≤ qs q := by
  have h : ln q.den ≠ 0 := by rw [Ne, ln_eq_zero]; exact q.den_nz
  have := qs_den q
  omega
theorem qs_mul (a b : Rat) : qs (a * b) ≤ qs a + qs b := by
  rw [← fq_self a, ← fq_self b, fq_mul, fq_self, fq_self]
  refine qs_fq (Nat.le_trans (ln_mul _ _) ?_) (Nat.le_trans (ln_mul _ _) ?_) (by have := qs_pos a; omega)
  · have := qs_num a; have := qs_num b; omega
  · have := qs_den a; have := qs_den b; omega
theorem qs_div (a b : Rat) : qs (a / b) ≤ qs a + qs b := by
  rw [← fq_self a, ← fq_self b, fq_over, fq_self, fq_self]
  refine qs_fq (Nat.le_trans (ln_mul _ _) ?_) (Nat.le_trans (ln_mul _ _) ?_) (by have := qs_pos a; omega)
  · have := qs_num a; have := qs_den b; omega
  · have := qs_den a; have := qs_num b; omega
theorem qs_neg (a : Rat) : qs (-a) = qs a := by unfold qs; simp
theorem qs_add (a b : Rat) : qs (a + b) ≤ qs a + qs b + 1 := by
  have e : a + b = mkRat (a.num * b.den + b.num * a.den) (a.den * b.den) := Rat.add_def' a b
  have e2 : a + b = fq (decide (a.num * b.den + b.num * a.den < 0)) (a.num * b.den + b.num * a.den).natAbs (a.den * b.den) := by
    rw [e]; unfold fq
    congr 1
    by_cases h : a.num * b.den + b.num * a.den < 0
    · rw [decide_eq_true h, if_pos rfl]; omega
    · rw [decide_eq_false h, if_neg (by simp)]; omega
  rw [e2]
  have h1 := qs_num a
  have h2 := qs_num b
  have h3 := qs_den a
  have h4 := qs_den b
  refine qs_fq ?_ (Nat.le_trans (ln_mul _ _) (by omega)) (by omega)
  have h5 : (a.num * b.den + b.num * a.den).natAbs ≤ a.num.natAbs * b.den + b.num.natAbs * a.den := by
    refine Nat.le_trans (Int.natAbs_add_le _ _) ?_
    rw [Int.natAbs_mul, Int.natAbs_mul]
    simp
  have h6 := ln_mono h5
  have h7 := ln_add (a.num.natAbs * b.den) (b.num.natAbs * a.den)
  have h8 := ln_mul a.num.natAbs b.den
  have h9 := ln_mul b.num.natAbs a.den
  omega
theorem qs_sub (a b : Rat) : qs (a - b) ≤ qs a + qs b + 1 := by
  have := qs_add a (-b)
  rw [qs_neg] at this
  rwa [Rat.sub_eq_add_neg]
theorem qs_int (z : Int) (h1 : -9223372036854775808 ≤ z) (h2 : z ≤ 9223372036854775807) : qs (z : Rat) ≤ 3 := by
  unfold qs
  have e1 : ln z.natAbs ≤ 3 := ln_le.2 (by omega)
  have e2 : ln 1 ≤ 3 := ln_le.2 (by omega)
  simp
  omega
/-- The sum of limbs of any words below 2^32. -/
theorem nv_lt32 (l : List Nat) (h : ∀ a ∈ l, a < 4294967296) : nv l + 5 ≤ 5 * 1000000000 ^ l.length := by
  induction l with
  | nil => simp [nv]
  | cons a l ih =>
    have h1 := h a (by simp)
    have h2 := ih (fun b hb => h b (by simp [hb]))
    simp only [nv, List.length_cons, Nat.pow_succ]
    omega
theorem ln_nv32 {l : List Nat} (h : ∀ a ∈ l, a < 4294967296) : ln (nv l) ≤ l.length + 1 := by
  rw [ln_le, Nat.pow_succ]
  have := nv_lt32 l h
  have : 0 < 1000000000 ^ l.length := Nat.pow_pos (by omega)
  omega
theorem qs_floor (q : Rat) : qs (q.floor : Rat) ≤ qs q + 1 := by
  have e := fq_floor (s := decide (q.num < 0)) (n := q.num.natAbs) (d := q.den) q.den_nz
  rw [fq_self] at e
  have h0 : ln q.floor.natAbs ≤ max (ln (q.num.natAbs / q.den)) (ln 1) + 1 := by
    refine Nat.le_trans (ln_mono ?_) (ln_add _ _)
    rw [e]
    obtain ⟨k, hk⟩ : ∃ k : Nat, k = q.num.natAbs / q.den := ⟨_, rfl⟩
    rw [← hk]
    split
    · split <;> omega
    · omega
  have h1 := ln_div q.num.natAbs q.den
  have h2 := qs_num q
  have h3 := qs_pos q
  have h4 : ln 1 = 1 := by rw [ln, digs_small (by omega) (by omega)]; rfl
  unfold qs
  simp only [Rat.num_intCast, Rat.den_intCast]
  have h5 : ln 1 ≤ qs q + 1 := by omega
  have h6 : ln q.floor.natAbs ≤ qs q + 1 := by omega
  unfold qs at h5 h6
  omega
end Go.Proofs.Ytoedmnalnpmleaa
