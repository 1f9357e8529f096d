/-
  The text of numbers, plainly: digits and their value; what a text denotes. No walk here.
-/
import Derived.Test.YtefiapjfiojaoaaDoorPA
import Derived.Lib.ItoaNum
import Derived.Lib.IndexMore
namespace Go.Proofs.YtefiapjfiojaoaaDoor
open Go

def isDig (b : UInt8) : Bool := decide (48 ≤ b.toNat) && decide (b.toNat ≤ 57)
def dval (l : List UInt8) : Nat := l.foldl (fun a b => a * 10 + (b.toNat - 48)) 0
theorem dval_nil : dval [] = 0 := rfl
theorem dval_snoc (l : List UInt8) (b : UInt8) : dval (l ++ [b]) = dval l * 10 + (b.toNat - 48) := by simp [dval]
theorem dval_append (l m : List UInt8) : dval (l ++ m) = dval l * 10 ^ m.length + dval m := by
  have key : ∀ (m : List UInt8) (a : Nat), m.foldl (fun a b => a * 10 + (b.toNat - 48)) a = a * 10 ^ m.length + dval m := by
    intro m
    induction m with
    | nil => intro a; simp [dval]
    | cons b m ih =>
      intro a
      have h1 : dval (b :: m) = (0 * 10 + (b.toNat - 48)) * 10 ^ m.length + dval m := by
        show List.foldl _ _ m = _
        rw [ih]
      rw [List.foldl_cons, ih, h1, List.length_cons, Nat.pow_succ, Nat.add_mul, Nat.add_mul, Nat.mul_assoc, Nat.mul_comm 10 (10 ^ m.length)]
      omega
  unfold dval
  rw [List.foldl_append, key]
  rfl
theorem dval_lt {l : List UInt8} (h : l.all isDig = true) : dval l < 10 ^ l.length := by
  have key : ∀ m : List UInt8, m.reverse.all isDig = true → dval m.reverse < 10 ^ m.length := by
    intro m
    induction m with
    | nil => intro _; simp [dval]
    | cons b m ih =>
      intro h
      rw [List.reverse_cons, List.all_append, Bool.and_eq_true] at h
      have h1 := ih h.1
      have h2 : isDig b = true := by simpa using h.2
      simp only [isDig, Bool.and_eq_true, decide_eq_true_eq] at h2
      rw [List.reverse_cons, dval_snoc, List.length_cons, Nat.pow_succ]
      omega
  have := key l.reverse (by simpa using h)
  simpa using this
theorem all_take {l : List UInt8} (h : l.all isDig = true) (k : Nat) : (l.take k).all isDig = true := by
  rw [List.all_eq_true] at h ⊢
  exact fun x hx => h x (List.mem_of_mem_take hx)
theorem all_drop {l : List UInt8} (h : l.all isDig = true) (k : Nat) : (l.drop k).all isDig = true := by
  rw [List.all_eq_true] at h ⊢
  exact fun x hx => h x (List.mem_of_mem_drop hx)

/-- 1 to 200 digits. -/
def pdig (l : List UInt8) : Option Nat := if 1 ≤ l.length ∧ l.length ≤ 200 ∧ l.all isDig = true then some (dval l) else none
theorem pdig_some {l : List UInt8} (h1 : 1 ≤ l.length) (h2 : l.length ≤ 200) (h3 : l.all isDig = true) : pdig l = some (dval l) := if_pos ⟨h1, h2, h3⟩
theorem pdig_short {l : List UInt8} (h : l.length = 0) : pdig l = none := if_neg (by omega)
theorem pdig_long {l : List UInt8} (h : 200 < l.length) : pdig l = none := if_neg (by omega)
theorem pdig_bad {l : List UInt8} {k : Nat} (hk : k < l.length) (h : isDig l[k] = false) : pdig l = none := if_neg fun hh => by
  have := List.all_eq_true.1 hh.2.2 l[k] (List.getElem_mem hk)
  rw [h] at this
  cases this
theorem pdig_lt {l : List UInt8} {n : Nat} (h : pdig l = some n) : ln n ≤ 23 := by
  unfold pdig at h
  split at h
  · next hh =>
    injection h with h
    subst h
    rw [ln_le]
    refine Nat.lt_of_lt_of_le (dval_lt hh.2.2) (Nat.le_trans (Nat.pow_le_pow_right (by omega) hh.2.1) ?_)
    decide +kernel
  · cases h

/-- One limb off the end. -/
theorem dval_cut {l : List UInt8} (e : Nat) (he : e ≤ l.length) : dval (l.take e) = dval (l.take (e - 9)) * 1000000000 + dval ((l.take e).drop (e - 9)) := by
  have h1 : l.take e = l.take (e - 9) ++ (l.take e).drop (e - 9) := by
    have h2 : l.take (e - 9) = (l.take e).take (e - 9) := by rw [List.take_take, Nat.min_eq_left (by omega)]
    rw [h2, List.take_append_drop]
  have h3 : dval (l.take e) = dval (l.take (e - 9)) * 10 ^ ((l.take e).drop (e - 9)).length + dval ((l.take e).drop (e - 9)) := by
    rw [← dval_append, ← h1]
  rw [h3, List.length_drop, List.length_take, Nat.min_eq_left he]
  by_cases h9 : 9 ≤ e
  · rw [show e - (e - 9) = 9 from by omega]
  · rw [show e - 9 = 0 from by omega]
    simp [dval_nil]
theorem seg_lt {l : List UInt8} (h : l.all isDig = true) (e i : Nat) : dval (((l.take e).drop (e - 9)).take i) < 10 ^ i := by
  refine Nat.lt_of_lt_of_le (dval_lt (all_take (all_drop (all_take h e) (e - 9)) i)) (Nat.pow_le_pow_right (by omega) ?_)
  exact List.length_take_le _ _
theorem seg_lt9 {l : List UInt8} (h : l.all isDig = true) (e : Nat) : dval ((l.take e).drop (e - 9)) < 1000000000 := by
  refine Nat.lt_of_lt_of_le (dval_lt (all_drop (all_take h e) (e - 9))) ?_
  have : ((l.take e).drop (e - 9)).length ≤ 9 := by rw [List.length_drop, List.length_take]; omega
  exact Nat.le_trans (Nat.pow_le_pow_right (by omega) this) (by decide)
/-- The round of the loop over the limbs. -/
theorem pd_step {l : List UInt8} {N k e : Nat} (he : e ≤ l.length) (hN : N + 1000000000 ^ k * dval (l.take e) = dval l) :
    (N + 1000000000 ^ k * dval ((l.take e).drop (e - 9))) + 1000000000 ^ (k + 1) * dval (l.take (e - 9)) = dval l := by
  rw [← hN, dval_cut e he, Nat.mul_add, Nat.pow_succ, Nat.mul_assoc, Nat.mul_comm 1000000000 (dval (l.take (e - 9)))]
  omega

theorem seg_all {l : List UInt8} {lo j : Nat} (hj : j ≤ l.length) (h : ∀ i (hi : i < l.length), lo ≤ i → i < j → isDig l[i] = true) : ((l.take j).drop lo).all isDig = true := by
  rw [List.all_eq_true]
  intro x hx
  obtain ⟨i, hi, rfl⟩ := List.getElem_of_mem hx
  rw [List.length_drop, List.length_take] at hi
  rw [List.getElem_drop, List.getElem_take]
  exact h (lo + i) (by omega) (by omega) (by omega)
theorem seg_snoc {l : List UInt8} {lo j : Nat} (hj : j < l.length) (hl : lo ≤ j) : dval ((l.take (j + 1)).drop lo) = dval ((l.take j).drop lo) * 10 + (l[j].toNat - 48) := by
  rw [List.take_succ_eq_append_getElem hj, List.drop_append_of_le_length (by rw [List.length_take]; omega), dval_snoc]
theorem seg_self (l : List UInt8) (lo : Nat) : dval ((l.take lo).drop lo) = 0 := by
  rw [List.drop_eq_nil_of_le (List.length_take_le _ _)]; rfl
theorem seg_bd {l : List UInt8} {lo j : Nat} (hj : j ≤ l.length) (h : ∀ i (hi : i < l.length), lo ≤ i → i < j → isDig l[i] = true) : dval ((l.take j).drop lo) < 10 ^ (j - lo) := by
  refine Nat.lt_of_lt_of_le (dval_lt (seg_all hj h)) (Nat.pow_le_pow_right (by omega) ?_)
  rw [List.length_drop, List.length_take]; omega

/-- Where the first '/' stands, or the length. -/
def slash (l : List UInt8) : Nat := l.findIdx (· == 47)
theorem index_slash (l : List UInt8) : Lib.index l [47] = if slash l < l.length then (slash l : Int) else -1 := by
  induction l with
  | nil => simp [Lib.index, slash]
  | cons b l ih =>
    unfold Lib.index
    by_cases hb : b = 47
    · subst hb
      simp [slash, List.findIdx_cons]
    · have h1 : ([47] : List UInt8).isPrefixOf (b :: l) = false := by
        simp [List.isPrefixOf]
        exact fun h => hb h.symm
      have h2 : slash (b :: l) = slash l + 1 := by
        have h3 : (b == 47) = false := by simpa using hb
        simp [slash, List.findIdx_cons, h3]
      rw [h1, ih, h2]
      simp only [Bool.false_eq_true, if_false, List.length_cons]
      by_cases hs : slash l < l.length
      · rw [if_pos hs, if_pos (show slash l + 1 < l.length + 1 by omega)]
        have : ((slash l : Int) == -1) = false := by simp
        rw [this]; simp
      · rw [if_neg hs, if_neg (show ¬ slash l + 1 < l.length + 1 by omega)]
        simp
theorem slash_le (l : List UInt8) : slash l ≤ l.length := List.findIdx_le_length
theorem cut_slash (l : List UInt8) : Lib.cut l [47] = (l.take (slash l), l.drop (slash l + 1), decide (slash l < l.length)) := by
  unfold Lib.cut
  rw [index_slash]
  by_cases h : slash l < l.length
  · rw [if_pos h, if_pos (by omega)]
    simp [h]
  · have := slash_le l
    rw [if_neg h, if_neg (by omega), List.take_of_length_le (by omega), List.drop_eq_nil_of_le (by omega)]
    simp [h]
theorem slash_at {l : List UInt8} {k : Nat} (h : k < l.length) (h1 : l[k] = 47) (h2 : ∀ j (hj : j < l.length), j < k → l[j] ≠ 47) : slash l = k := by
  unfold slash
  rw [List.findIdx_eq h]
  exact ⟨by simp [h1], fun j hj => by simpa using h2 j (by omega) hj⟩
theorem slash_none {l : List UInt8} (h : ∀ j (hj : j < l.length), l[j] ≠ 47) : slash l = l.length := by
  unfold slash
  rw [List.findIdx_eq_length]
  intro x hx
  obtain ⟨j, hj, rfl⟩ := List.getElem_of_mem hx
  simpa using h j hj
end Go.Proofs.YtefiapjfiojaoaaDoor
