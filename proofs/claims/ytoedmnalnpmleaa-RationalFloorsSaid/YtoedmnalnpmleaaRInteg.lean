/-
  Rational numbers as values: Integral.
-/
import Derived.Test.YtoedmnalnpmleaaROps
namespace Go.Proofs.Ytoedmnalnpmleaa
open Go.RowKit

set_option maxRecDepth 100000 in
set_option maxHeartbeats 1600000 in
theorem integral_q {v : Value} {q : Rat} {B : Nat} {w : World} (h : IV w v q B) (hB : B ≤ 8589934590) : Calls Try.prog 20 #[v] w fun e w' => e = .returned (.bool (q.den == 1)) ∧ Up w w' := by
  have H := Lib.hid (fun wx (u : Up w wx) => load_q (h.up u) (by omega))
  have hq := h.qs
  obtain ⟨s, A, n, c, A', n', c', rfl⟩ := h.shape
  clear h
  go_enter Try.func20, Try.ntmps20
  go_wp2_with fail
  have U1 : Up w (w.alloc (Obj.cells #[.bool s, .slice A n c, .slice A' n' c'] 24)) := (Below.refl _ _).alloc (Nat.le_refl _) _
  refine (H.out _ U1).mono ?_
  rintro e w2 ⟨v2, rfl, hF, hU2⟩
  obtain ⟨s2, A2, n2, c2, A2', n2', c2', rfl⟩ := hF.shape
  have HF := Lib.hid hF
  have U2 := U1.trans hU2
  clear hF hU2 U1
  go_wp2_with fail
  refine (lowest_q HF.out (by omega)).mono ?_
  rintro e w3 ⟨v3, rfl, hQ, hU3⟩
  obtain ⟨s3, A3, n3, c3, A3', n3', c3', rfl⟩ := hQ.shape
  have HQ := Lib.hid hQ
  clear hQ
  have hfd := field2 s3 A3 A3' n3 c3 n3' c3'
  go_wp2_with fail
  refine (isOne_q HQ.out (by omega)).mono ?_
  rintro e w4 ⟨rfl, rfl⟩
  go_wp2_with fail
  go_ret
  exact ⟨rfl, U2.trans hU3⟩
end Go.Proofs.Ytoedmnalnpmleaa
