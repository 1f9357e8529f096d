/-
  What a text denotes as a rational number: sign, digits, '/', digits. No walk here.
-/
import Derived.Test.YtefiapjfiojaoaaDoorPC
import Derived.Test.YtefiapjfiojaoaaDoorTPlain
namespace Go.Proofs.YtefiapjfiojaoaaDoor
open Go

def ptext2 (neg : Bool) (t : List UInt8) : Option Rat :=
  match pdig (t.take (slash t)) with
  | none => none
  | some n => if slash t < t.length then
      match pdig (t.drop (slash t + 1)) with
      | none => none
      | some d => if d = 0 then none else some (fq neg n d)
    else some (fq neg n 1)
def ptext (l : List UInt8) : Option Rat := ptext2 (Lib.hasPrefix l [45]) (Lib.trimPrefix l [45])
section
variable {neg : Bool} {t : List UInt8} {n d : Nat}
theorem p2_num (h : pdig (t.take (slash t)) = none) : ptext2 neg t = none := by unfold ptext2; rw [h]
theorem p2_int (h : pdig (t.take (slash t)) = some n) (h1 : ¬ slash t < t.length) : ptext2 neg t = some (fq neg n 1) := by unfold ptext2; rw [h]; exact if_neg h1
theorem p2_den (h : pdig (t.take (slash t)) = some n) (h1 : slash t < t.length) (h2 : pdig (t.drop (slash t + 1)) = none) : ptext2 neg t = none := by
  unfold ptext2; rw [h]; simp only [if_pos h1]; rw [h2]
theorem p2_zero (h : pdig (t.take (slash t)) = some n) (h1 : slash t < t.length) (h2 : pdig (t.drop (slash t + 1)) = some d) (h3 : d = 0) : ptext2 neg t = none := by
  unfold ptext2; rw [h]; simp only [if_pos h1]; rw [h2]; exact if_pos h3
theorem p2_frac (h : pdig (t.take (slash t)) = some n) (h1 : slash t < t.length) (h2 : pdig (t.drop (slash t + 1)) = some d) (h3 : d ≠ 0) : ptext2 neg t = some (fq neg n d) := by
  unfold ptext2; rw [h]; simp only [if_pos h1]; rw [h2]; exact if_neg h3
end
theorem ptext_qs {l : List UInt8} {q : Rat} (h : ptext l = some q) : qs q ≤ 23 := by
  unfold ptext ptext2 at h
  split at h
  · cases h
  · next n hn =>
    split at h
    · split at h
      · cases h
      · next d hd =>
        split at h
        · cases h
        · next h0 =>
          injection h with h
          subst h
          exact qs_fq (pdig_lt hn) (pdig_lt hd) (by omega)
    · injection h with h
      subst h
      refine qs_fq (pdig_lt hn) ?_ (by omega)
      rw [ln_le]; decide +kernel
theorem neg_head (l : List UInt8) : Lib.hasPrefix l [45] = (decide (0 < l.length) && (l.getD 0 0 == 45)) := by
  unfold Lib.hasPrefix
  cases l with
  | nil => rfl
  | cons b r =>
    simp only [List.isPrefixOf, Bool.and_true, List.length_cons, List.getD_cons_zero]
    rw [decide_eq_true (by omega), Bool.true_and]
    exact Bool.eq_iff_iff.2 ⟨fun h => by simp at h ⊢; exact h.symm, fun h => by simp at h ⊢; exact h.symm⟩
theorem trim_eq (l : List UInt8) : Lib.trimPrefix l [45] = if Lib.hasPrefix l [45] then l.drop 1 else l := rfl
end Go.Proofs.YtefiapjfiojaoaaDoor
