/-
  RationalSums: for every slice of rational numbers the law returns true. Conditions: none.
-/
import Derived.Test.YtgkelddcklggnaaFSum
import Derived.Test.YtgkelddcklggnaaPD
namespace Go.Proofs.Ytgkelddcklggnaa
open Go.RowKit

theorem pick_list {α β : Type} [Inhabited β] {P : α → β → Prop} : ∀ (vs : List α), (∀ v ∈ vs, ∃ q, P v q) → ∀ z : β, ∃ rs : List β, rs.length = vs.length ∧ ∀ j (h : j < vs.length), P vs[j] (rs.getD j z)
  | [], _, _ => ⟨[], rfl, fun j h => absurd h (by simp)⟩
  | v :: vs, hv, z => by
    obtain ⟨q, hq⟩ := hv v (by simp)
    obtain ⟨rs, h1, h2⟩ := pick_list vs (fun u hu => hv u (by simp [hu])) z
    refine ⟨q :: rs, by simp [h1], fun j h => ?_⟩
    match j, h with
    | 0, _ => simpa using hq
    | j + 1, h => simpa using h2 j (by simpa using h)

set_option maxRecDepth 100000 in
set_option maxHeartbeats 3200000 in
theorem RationalSums_walk (A : Option Addr) (ca : Nat) (vs : List Value) (w : World) (hr : EL w w.heap.size A vs) (hx : vs.length ≤ ca ∧ ca ≤ 9223372036854775807 ∧ ∀ u ∈ vs, ∃ s xs ys, RV w u s xs ys) :
    Calls Try.prog 7 #[.slice A vs.length ca] w fun e w' => e = .returned (.bool true) ∧ Up w w' := by
  obtain ⟨h1, h2, h3⟩ := hx
  have HK := Lib.hid (keepRats_any A ca vs 12 w hr (by omega) (by omega) (fun v hv s X a c Y b d e => by
    obtain ⟨s', xs, ys, A1, c1, B1, d1, e2, _, _, _, _, g1, g2, g3, g4⟩ := h3 v hv
    rw [e2] at e
    injection e with e
    simp at e
    obtain ⟨_, ⟨_, rfl, _⟩, _, rfl, _⟩ := e
    exact ⟨by omega, by omega⟩))
  cases hq : (decide (vs.length ≤ 12) && vs.all smallV) with
  | false =>
    rw [hq] at HK
    clear hr h3 hq
    go_enter Try.func7, Try.ntmps7
    go_wp2_with fail
    refine HK.out.mono ?_
    rintro e w1 ⟨rfl, U1⟩
    go_wp2_with fail
    go_ret
    exact ⟨rfl, U1⟩
  | true =>
    rw [hq] at HK
    simp only [Bool.and_eq_true, decide_eq_true_eq, List.all_eq_true] at hq
    obtain ⟨rs, hl, hi⟩ := pick_list (P := fun v q => IV w v q 8) vs (fun v hv => by
      obtain ⟨s, xs, ys, hR⟩ := h3 v hv
      have hs := hq.2 v hv
      have hR' := hR
      obtain ⟨A1, c1, B1, d1, e2, _⟩ := hR
      rw [e2] at hs
      rw [show smallV (Value.agg #[.bool s, .slice A1 xs.length c1, .slice B1 ys.length d1]) = (decide (xs.length ≤ 8) && decide (ys.length ≤ 8)) from rfl] at hs
      simp only [Bool.and_eq_true, decide_eq_true_eq] at hs
      exact ⟨_, s, xs, ys, hR', hs.1, hs.2, rfl⟩) 0
    have HS := Lib.hid (qs_sumQ rs (fun j hj => (hi j (by omega)).qs) rs.length (Nat.le_refl _))
    have C1 := Lib.hid (fun (W : World) (hU : Up w W) => sum_q A ca vs rs W (hr.up hU) (by omega) hl (fun j hj => (hi j hj).up hU))
    have C2 := Lib.hid (fun (W : World) (hU : Up w W) => rSum_q A ca vs rs W (hr.up hU) (by omega) hl (fun j hj => (hi j hj).up hU))
    have HL := Lib.hid (show rs.length ≤ 12 by omega)
    clear hr h3 hq hi hl
    go_enter Try.func7, Try.ntmps7
    go_wp2_with fail
    refine HK.out.mono ?_
    rintro e w1 ⟨rfl, U1⟩
    go_wp2_with fail
    refine (C1.out _ U1).mono ?_
    rintro e w2 ⟨v2, rfl, Q2, U2⟩
    obtain ⟨s2, A2, n2, c2, B2, m2, d2, rfl⟩ := Q2.shape
    have HQ2 := Lib.hid Q2
    clear Q2
    go_wp2_with fail
    refine (C2.out _ (Up.trans U1 U2)).mono ?_
    rintro e w3 ⟨v3, rfl, Q3, U3⟩
    obtain ⟨s3, A3, n3, c3, B3, m3, d3, rfl⟩ := Q3.shape
    have HQ3 := Lib.hid Q3
    clear Q3
    have S := Lib.hid (sameRat_q (HQ2.out.up U3) HQ3.out (Nat.le_trans HS.out (by have := HL.out; omega)) (Nat.le_trans HS.out (by have := HL.out; omega)))
    rw [decide_eq_true rfl] at S
    go_wp2_with fail
    refine S.out.mono ?_
    rintro e w4 ⟨rfl, U4⟩
    go_wp2_with fail
    refine (awake01_any _).mono ?_
    rintro e w5 ⟨rfl, U5⟩
    go_wp2_with fail
    go_ret
    exact ⟨rfl, Up.trans U1 (Up.trans U2 (Up.trans U3 (Up.trans U4 U5)))⟩
end Go.Proofs.Ytgkelddcklggnaa
