/-
  The lists that Powers and FromPowers make, step by step: plain laws.
-/
import Derived.Test.YtkngegcfdabpoaaLPowS
import Derived.Test.YtkngegcfdabpoaaLComb
namespace Go.Proofs.Ytkngegcfdabpoaa

theorem raised_getD (acc : List Rat) (i : Nat) : (List.replicate 1 (0 : Rat) ++ acc).getD i 0 = if i = 0 then 0 else acc.getD (i - 1) 0 := by
  match i with
  | 0 => rfl
  | i + 1 => rfl
theorem pow_step (ps : List Rat) (r k : Nat) (acc : List Rat) (hk : k = ps.length - 1 - r) (hl : acc.length = r) (ha : ∀ i, acc.getD i 0 = pwR ps r i) :
    (combL (fun a b => (a + b) * (((1 : Int) : Rat) / (((k : Int) + 1 : Int) : Rat))) (List.replicate 1 0 ++ acc) (combL (fun a _ => a * ((-(k : Int) : Int) : Rat)) acc [])).length = r + 1 ∧
    ∀ i, ((combL (fun a b => (a + b) * (((1 : Int) : Rat) / (((k : Int) + 1 : Int) : Rat))) (List.replicate 1 0 ++ acc) (combL (fun a _ => a * ((-(k : Int) : Int) : Rat)) acc [])).set 0
      ((combL (fun a b => (a + b) * (((1 : Int) : Rat) / (((k : Int) + 1 : Int) : Rat))) (List.replicate 1 0 ++ acc) (combL (fun a _ => a * ((-(k : Int) : Int) : Rat)) acc [])).getD 0 0 + ps.getD k 0)).getD i 0 = pwR ps (r + 1) i := by
  have e1 : (combL (fun a b => (a + b) * (((1 : Int) : Rat) / (((k : Int) + 1 : Int) : Rat))) (List.replicate 1 0 ++ acc) (combL (fun a _ => a * ((-(k : Int) : Int) : Rat)) acc [])).length = r + 1 := by
    rw [combL_len, combL_len, List.length_append, List.length_replicate, List.length_nil, hl]; omega
  have e2 : ∀ i, (combL (fun a _ => a * ((-(k : Int) : Int) : Rat)) acc []).getD i 0 = acc.getD i 0 * ((-(k : Int) : Int) : Rat) := fun i => by
    by_cases hi : i < max acc.length ([] : List Rat).length
    · rw [combL_getD _ _ _ _ hi]
    · rw [getD_len (by rw [combL_len]; omega), getD_len (l := acc) (by simp at hi; omega)]; grind
  have e3 : ∀ i, i < r + 1 → (combL (fun a b => (a + b) * (((1 : Int) : Rat) / (((k : Int) + 1 : Int) : Rat))) (List.replicate 1 0 ++ acc) (combL (fun a _ => a * ((-(k : Int) : Int) : Rat)) acc [])).getD i 0 = ((if i = 0 then 0 else pwR ps r (i - 1)) + pwR ps r i * ((-(k : Int) : Int) : Rat)) * (((1 : Int) : Rat) / (((k : Int) + 1 : Int) : Rat)) := fun i hi => by
    rw [combL_getD _ _ _ _ (by rw [combL_len] at e1; omega), raised_getD, e2]
    simp only [ha]
  refine ⟨e1, fun i => ?_⟩
  by_cases hi : i < r + 1
  · by_cases h0 : i = 0
    · subst h0
      rw [show ∀ (l : List Rat) (q : Rat), 0 < l.length → (l.set 0 q).getD 0 0 = q from fun l q h => by simp [h]]
      · rw [e3 0 (by omega), pwR_succ, ← hk, pstep]; simp
      · rw [e1]; omega
    · rw [show ∀ (l : List Rat) (q : Rat), (l.set 0 q).getD i 0 = l.getD i 0 from fun l q => by simp [List.getElem?_set, Ne.symm h0]]
      rw [e3 i hi, pwR_succ, ← hk, pstep, if_neg h0, if_neg h0]; grind
  · rw [getD_len (by rw [List.length_set, e1]; omega), pwR_zero ps (r + 1) i (by omega)]
end Go.Proofs.Ytkngegcfdabpoaa
