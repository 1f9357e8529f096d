/-
  Changes of the basis: plain laws, no program in sight.
-/
import Derived.Test.YtkngegcfdabpoaaLSize
import Derived.Test.YtkngegcfdabpoaaLRow
namespace Go.Proofs.Ytkngegcfdabpoaa

/-- One step of Powers: times (n - k) / (k + 1), plus p. -/
def pstep (p : Rat) (k : Nat) (c : Nat → Rat) (i : Nat) : Rat := ((if i = 0 then 0 else c (i - 1)) + c i * ((-(k : Int) : Int) : Rat)) * (((1 : Int) : Rat) / (((k : Int) + 1 : Int) : Rat)) + (if i = 0 then p else 0)
/-- r steps, from the last coefficient down. -/
def pwR (ps : List Rat) : Nat → Nat → Rat
  | 0 => fun _ => 0
  | r + 1 => pstep (ps.getD (ps.length - 1 - r) 0) (ps.length - 1 - r) (pwR ps r)
theorem pwR_succ (ps : List Rat) (r : Nat) : pwR ps (r + 1) = pstep (ps.getD (ps.length - 1 - r) 0) (ps.length - 1 - r) (pwR ps r) := rfl
theorem pwR_zero (ps : List Rat) (r : Nat) : ∀ i, r ≤ i → pwR ps r i = 0 := by
  induction r with
  | zero => intro i _; rfl
  | succ r ih =>
    intro i hi
    rw [pwR_succ, pstep, if_neg (by omega), if_neg (by omega), ih (i - 1) (by omega), ih i (by omega)]
    grind
theorem pwr_shift (m : Nat) (c : Nat → Rat) (x : Rat) : sm (m + 1) (fun i => (if i = 0 then 0 else c (i - 1)) * x ^ i) = x * pwr m c x := by
  rw [sm_head, if_pos rfl, pwr, ← sm_mul]
  rw [sm_congr (g := fun i => x * (c i * x ^ i)) (fun i _ => by rw [if_neg (by omega), Nat.add_sub_cancel, Rat.pow_succ]; grind)]
  grind
theorem pwr_more {m n : Nat} {c : Nat → Rat} (h : m ≤ n) (hz : ∀ i, m ≤ i → c i = 0) (x : Rat) : pwr n c x = pwr m c x := by
  unfold pwr
  exact sm_more h fun i h1 _ => by rw [hz i h1]; grind
theorem sm_first {m : Nat} (p : Rat) (x : Rat) : sm (m + 1) (fun i => (if i = 0 then p else 0) * x ^ i) = p := by
  rw [sm_head, if_pos rfl, sm_none (fun i _ => by rw [if_neg (by omega)]; grind), Rat.pow_zero]; grind
theorem pstep_val (p : Rat) (k m : Nat) (c : Nat → Rat) (hz : c m = 0) (x : Rat) : pwr (m + 1) (pstep p k c) x = pwr m c x * (x - (k : Rat)) / ((k : Rat) + 1) + p := by
  have h3 := cast_succ_ne k
  have e1 : pwr (m + 1) (pstep p k c) x = (x * pwr m c x + ((-(k : Int) : Int) : Rat) * pwr m c x) * (((1 : Int) : Rat) / (((k : Int) + 1 : Int) : Rat)) + p := by
    have a1 : pwr (m + 1) (pstep p k c) x = sm (m + 1) (fun i => (((1 : Int) : Rat) / (((k : Int) + 1 : Int) : Rat)) * ((if i = 0 then 0 else c (i - 1)) * x ^ i)) + (sm (m + 1) (fun i => (((1 : Int) : Rat) / (((k : Int) + 1 : Int) : Rat)) * (((-(k : Int) : Int) : Rat) * (c i * x ^ i))) + sm (m + 1) (fun i => (if i = 0 then p else 0) * x ^ i)) := by
      rw [← sm_add, ← sm_add, pwr]
      exact sm_congr fun i _ => by rw [pstep]; grind
    rw [a1, sm_mul, pwr_shift, sm_mul, sm_mul, sm_first]
    have a2 : sm (m + 1) (fun i => c i * x ^ i) = pwr m c x := by rw [sm_succ, hz, pwr]; grind
    rw [a2]; grind
  have e2 : (((k : Int) + 1 : Int) : Rat) = (k : Rat) + 1 := by rw [Rat.intCast_add, Rat.intCast_natCast]; rfl
  have e3 : ((-(k : Int) : Int) : Rat) = -(k : Rat) := by rw [Rat.intCast_neg, Rat.intCast_natCast]
  have e4 : ((1 : Int) : Rat) = 1 := rfl
  rw [e1, e2, e3, e4, Rat.div_def, Rat.div_def]
  grind
/-- Horner's rule in the binomial basis. -/
theorem pwR_horner (ps : List Rat) (x : Rat) : ∀ r, r ≤ ps.length → pat ps x = sm (ps.length - r) (fun j => ps.getD j 0 * bc x j) + bc x (ps.length - r) * pwr r (pwR ps r) x := by
  intro r
  induction r with
  | zero => intro _; rw [Nat.sub_zero, pat, show pwr 0 (pwR ps 0) x = 0 from rfl]; grind
  | succ r ih =>
    intro hr
    rw [ih (by omega), pwR_succ, pstep_val _ _ _ _ (pwR_zero ps r r (Nat.le_refl _))]
    obtain ⟨k, hk⟩ : ∃ k, ps.length - r = k + 1 := ⟨ps.length - r - 1, by omega⟩
    rw [show ps.length - (r + 1) = k by omega, show ps.length - 1 - r = k by omega, hk, sm_succ, bc_succ]
    have h3 := cast_succ_ne k
    rw [Rat.div_def, Rat.div_def]
    grind
theorem pwR_val (ps : List Rat) (x : Rat) : pwr ps.length (pwR ps ps.length) x = pat ps x := by
  have h := pwR_horner ps x ps.length (Nat.le_refl _)
  rw [Nat.sub_self, sm_zero, bc_zero] at h
  rw [h]; grind
/-- The coefficients of C(n, k) in powers. -/
def rowC : Nat → Nat → Rat
  | 0 => fun i => if i = 0 then 1 else 0
  | k + 1 => fun i => (if i = 0 then 0 else rowC k (i - 1) / (((k : Int) + 1 : Int) : Rat)) - rowC k i / (((k : Int) + 1 : Int) : Rat) * (((k : Nat) : Int) : Rat)
theorem rowC_succ (k i : Nat) : rowC (k + 1) i = (if i = 0 then 0 else rowC k (i - 1) / (((k : Int) + 1 : Int) : Rat)) - rowC k i / (((k : Int) + 1 : Int) : Rat) * (((k : Nat) : Int) : Rat) := rfl
theorem rowC_zero (k : Nat) : ∀ i, k < i → rowC k i = 0 := by
  induction k with
  | zero => intro i hi; exact if_neg (by omega)
  | succ k ih =>
    intro i hi
    rw [rowC_succ, if_neg (by omega), ih (i - 1) (by omega), ih i (by omega), Rat.div_def]
    grind
theorem rowC_val (k : Nat) (x : Rat) : pwr (k + 1) (rowC k) x = bc x k := by
  induction k with
  | zero => rw [pwr, sm_succ, sm_zero, bc_zero, Rat.pow_zero]; show 0 + (if 0 = 0 then 1 else 0) * 1 = (1 : Rat); rw [if_pos rfl]; grind
  | succ k ih =>
    have e2 : (((k : Int) + 1 : Int) : Rat) = (k : Rat) + 1 := by rw [Rat.intCast_add, Rat.intCast_natCast]; rfl
    have e3 : (((k : Nat) : Int) : Rat) = (k : Rat) := Rat.intCast_natCast k
    have h3 := cast_succ_ne k
    have a1 : pwr (k + 1 + 1) (rowC (k + 1)) x = (1 / ((k : Rat) + 1)) * sm (k + 1 + 1) (fun i => (if i = 0 then 0 else rowC k (i - 1)) * x ^ i) + (-(k : Rat) / ((k : Rat) + 1)) * sm (k + 1 + 1) (fun i => rowC k i * x ^ i) := by
      rw [← sm_mul, ← sm_mul, ← sm_add, pwr]
      refine sm_congr fun i _ => ?_
      rw [rowC_succ, e2, e3, Rat.div_def, Rat.div_def, Rat.div_def, Rat.div_def]
      split <;> grind
    have a2 : sm (k + 1 + 1) (fun i => rowC k i * x ^ i) = pwr (k + 1) (rowC k) x := by rw [sm_succ, rowC_zero k (k + 1) (by omega), pwr]; grind
    rw [a1, pwr_shift, a2, ih, bc_succ, Rat.div_def, Rat.div_def, Rat.div_def]
    grind
def oC (ps : List Rat) (K i : Nat) : Rat := sm K (fun k => ps.getD k 0 * rowC k i)
theorem oC_val (ps : List Rat) (x : Rat) : pwr ps.length (oC ps ps.length) x = pat ps x := by
  have e : pwr ps.length (oC ps ps.length) x = sm ps.length (fun i => sm ps.length (fun k => ps.getD k 0 * (rowC k i * x ^ i))) := by
    refine sm_congr fun i _ => ?_
    rw [oC, Rat.mul_comm, ← sm_mul]
    exact sm_congr fun k _ => by grind
  rw [e, sm_swap, pat]
  refine sm_congr fun k hk => ?_
  rw [sm_mul]
  congr 1
  rw [← rowC_val k x]
  exact pwr_more (c := rowC k) (by omega) (fun i hi => rowC_zero k i (by omega)) x
theorem pow_same (ps : List Rat) (i : Nat) (hi : i < ps.length) : pwR ps ps.length i = oC ps ps.length i := by
  have h := pwr_unique ps.length (fun i => pwR ps ps.length i - oC ps ps.length i) (fun n => by
    have e : pwr ps.length (fun i => pwR ps ps.length i - oC ps ps.length i) (n : Rat) = pwr ps.length (pwR ps ps.length) n + (-1) * pwr ps.length (oC ps ps.length) n := by
      unfold pwr
      rw [← sm_mul, ← sm_add]
      exact sm_congr fun i _ => by grind
    rw [e, pwR_val, oC_val]; grind) i hi
  grind
/-- One step of FromPowers: times n, plus p. -/
def fstep (p : Rat) (c : Nat → Rat) (i : Nat) : Rat := (if i = 0 then 0 else c (i - 1) * (((i : Nat) : Int) : Rat)) + c i * (((i : Nat) : Int) : Rat) + (if i = 0 then p else 0)
def fpR (ps : List Rat) : Nat → Nat → Rat
  | 0 => fun _ => 0
  | r + 1 => fstep (ps.getD (ps.length - 1 - r) 0) (fpR ps r)
theorem fpR_succ (ps : List Rat) (r : Nat) : fpR ps (r + 1) = fstep (ps.getD (ps.length - 1 - r) 0) (fpR ps r) := rfl
theorem fpR_zero (ps : List Rat) (r : Nat) : ∀ i, r ≤ i → fpR ps r i = 0 := by
  induction r with
  | zero => intro i _; rfl
  | succ r ih =>
    intro i hi
    rw [fpR_succ, fstep, if_neg (by omega), if_neg (by omega), ih (i - 1) (by omega), ih i (by omega)]
    grind
def bsum (m : Nat) (c : Nat → Rat) (x : Rat) : Rat := sm m (fun k => c k * bc x k)
theorem fstep_val (p : Rat) (m : Nat) (c : Nat → Rat) (hz : c m = 0) (x : Rat) : bsum (m + 1) (fstep p c) x = x * bsum m c x + p := by
  have e0 : ∀ i : Nat, (((i : Nat) : Int) : Rat) = (i : Rat) := fun i => Rat.intCast_natCast i
  have a1 : bsum (m + 1) (fstep p c) x = sm (m + 1) (fun i => (if i = 0 then 0 else c (i - 1) * (i : Rat)) * bc x i) + (sm (m + 1) (fun i => c i * (i : Rat) * bc x i) + sm (m + 1) (fun i => (if i = 0 then p else 0) * bc x i)) := by
    rw [← sm_add, ← sm_add, bsum]
    exact sm_congr fun i _ => by rw [fstep, e0]; grind
  have a2 : sm (m + 1) (fun i => (if i = 0 then p else 0) * bc x i) = p := by
    rw [sm_head, if_pos rfl, sm_none (fun i _ => by rw [if_neg (by omega)]; grind), bc_zero]; grind
  have a3 : sm (m + 1) (fun i => (if i = 0 then 0 else c (i - 1) * (i : Rat)) * bc x i) = sm m (fun i => c i * ((i : Rat) + 1) * bc x (i + 1)) := by
    rw [sm_head, if_pos rfl, sm_congr (g := fun i => c i * ((i : Rat) + 1) * bc x (i + 1)) (fun i _ => by rw [if_neg (by omega), Nat.add_sub_cancel, cast_succ])]
    grind
  have a4 : sm (m + 1) (fun i => c i * (i : Rat) * bc x i) = sm m (fun i => c i * (i : Rat) * bc x i) := by rw [sm_succ, hz]; grind
  rw [a1, a2, a3, a4, bsum, ← sm_mul]
  have a5 : sm m (fun k => x * (c k * bc x k)) = sm m (fun i => c i * ((i : Rat) + 1) * bc x (i + 1)) + sm m (fun i => c i * (i : Rat) * bc x i) := by
    rw [← sm_add]
    exact sm_congr fun k _ => by have := bc_shift x k; grind
  rw [a5]; grind
theorem fpR_horner (ps : List Rat) (x : Rat) : ∀ r, r ≤ ps.length → pwr ps.length (fun i => ps.getD i 0) x = sm (ps.length - r) (fun j => ps.getD j 0 * x ^ j) + x ^ (ps.length - r) * bsum r (fpR ps r) x := by
  intro r
  induction r with
  | zero => intro _; rw [Nat.sub_zero, pwr, show bsum 0 (fpR ps 0) x = 0 from rfl]; grind
  | succ r ih =>
    intro hr
    rw [ih (by omega), fpR_succ, fstep_val _ _ _ (fpR_zero ps r r (Nat.le_refl _))]
    obtain ⟨k, hk⟩ : ∃ k, ps.length - r = k + 1 := ⟨ps.length - r - 1, by omega⟩
    rw [show ps.length - (r + 1) = k by omega, show ps.length - 1 - r = k by omega, hk, sm_succ, Rat.pow_succ]
    grind
/-- The lists. -/
def powL (ps : List Rat) : List Rat := (List.range ps.length).map (pwR ps ps.length)
def fpL (ps : List Rat) : List Rat := (List.range ps.length).map (fpR ps ps.length)
theorem powL_len (ps : List Rat) : (powL ps).length = ps.length := by simp [powL]
theorem fpL_len (ps : List Rat) : (fpL ps).length = ps.length := by simp [fpL]
theorem powL_oC (ps : List Rat) : (List.range ps.length).map (oC ps ps.length) = powL ps := map_congr' fun i hi => (pow_same ps i hi).symm
theorem fpL_pat (ps : List Rat) (x : Rat) : pat (fpL ps) x = pwr ps.length (fun i => ps.getD i 0) x := by
  have h := fpR_horner ps x ps.length (Nat.le_refl _)
  rw [Nat.sub_self, sm_zero, Rat.pow_zero] at h
  rw [h, pat, fpL_len, sm_congr (g := fun k => fpR ps ps.length k * bc x k) (fun i hi => by rw [fpL, range_getD, if_pos hi])]
  unfold bsum
  grind
theorem pwr_cut (ps : List Rat) (x : Rat) : pwr (cutL ps).length (fun i => (cutL ps).getD i 0) x = pwr ps.length (fun i => ps.getD i 0) x := by
  have h := pwr_more (c := fun i => (cutL ps).getD i 0) (cutL_len ps) (fun i hi => getD_len hi) x
  rw [← h]
  exact sm_congr fun i _ => by simp only [cutL_getD]
theorem powL_pwr (ps : List Rat) (x : Rat) : pwr (powL ps).length (fun i => (powL ps).getD i 0) x = pat ps x := by
  rw [← pwR_val ps x, powL_len]
  exact sm_congr fun i hi => by simp only [powL]; rw [range_getD, if_pos hi]
theorem fp_pow (ps : List Rat) : cutL (fpL (cutL (powL ps))) = cutL ps := cut_of_values fun n => by rw [fpL_pat, pwr_cut, powL_pwr]
end Go.Proofs.Ytkngegcfdabpoaa
