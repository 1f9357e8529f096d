/-
  Sizes of absolute values and of integers above.
-/
import Derived.Test.YtoedmnalnpmleaaRFrame
namespace Go.Proofs.Ytoedmnalnpmleaa
open Go.RowKit

theorem qs_abs (a : Rat) : qs a.abs ≤ qs a := by
  have h := fq_abs (decide (a.num < 0)) a.num.natAbs a.den
  rw [fq_self] at h
  first
    | (rw [h]; exact qs_fq (qs_num a) (qs_den a) (qs_pos a))
    | (rw [← h]; exact qs_fq (qs_num a) (qs_den a) (qs_pos a))
theorem qs_ceil (a : Rat) : qs (a.ceil : Rat) ≤ qs a + 1 := by
  rw [Rat.ceil_eq_neg_floor_neg, Rat.intCast_neg, qs_neg]
  exact Nat.le_trans (qs_floor (-a)) (by rw [qs_neg]; omega)
end Go.Proofs.Ytoedmnalnpmleaa
