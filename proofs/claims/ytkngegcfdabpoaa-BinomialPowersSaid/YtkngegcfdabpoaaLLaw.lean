/-
  Lists of rational numbers as arguments of the laws.
-/
import Derived.Test.YtkngegcfdabpoaaLList
import Derived.Test.YtkngegcfdabpoaaLSize
namespace Go.Proofs.Ytkngegcfdabpoaa
open Go.RowKit

theorem pick_list {α β : Type} [Inhabited β] {P : α → β → Prop} : ∀ (vs : List α), (∀ v ∈ vs, ∃ q, P v q) → ∀ z : β, ∃ rs : List β, rs.length = vs.length ∧ ∀ j (h : j < vs.length), P vs[j] (rs.getD j z)
  | [], _, _ => ⟨[], rfl, fun j h => absurd h (by simp)⟩
  | v :: vs, hv, z => by
    obtain ⟨q, hq⟩ := hv v (by simp)
    obtain ⟨rs, h1, h2⟩ := pick_list vs (fun u hu => hv u (by simp [hu])) z
    refine ⟨q :: rs, by simp [h1], fun j h => ?_⟩
    match j, h with
    | 0, _ => simpa using hq
    | j + 1, h => simpa using h2 j (by simpa using h)
def ratsB (vs : List Value) (n : Nat) : Bool := decide (vs.length ≤ n) && vs.all smallV
theorem rats_guard {A : Option Addr} {ca : Nat} {vs : List Value} {w : World} (hr : EL w w.heap.size A vs) (hx : vs.length ≤ ca ∧ ca ≤ 9223372036854775807 ∧ ∀ u ∈ vs, ∃ s xs ys, RV w u s xs ys) (n : Nat) (hn : n ≤ 1000) :
    Calls Try.prog 9 #[.slice A vs.length ca, .int .i64 (n : Int)] w fun e w' => e = .returned (.bool (ratsB vs n)) ∧ Up w w' := by
  obtain ⟨h1, h2, h3⟩ := hx
  exact keepRats_any A ca vs n w hr hn (by omega) (fun v hv s X a c Y b d e => by
    obtain ⟨s', xs, ys, A1, c1, B1, d1, e2, _, _, _, _, g1, g2, g3, g4⟩ := h3 v hv
    rw [e2] at e
    injection e with e
    simp at e
    obtain ⟨_, ⟨_, rfl, _⟩, _, rfl, _⟩ := e
    exact ⟨by omega, by omega⟩)
theorem rats_small {A : Option Addr} {vs : List Value} {w : World} (hr : EL w w.heap.size A vs) {ca : Nat} (hx : vs.length ≤ ca ∧ ca ≤ 9223372036854775807 ∧ ∀ u ∈ vs, ∃ s xs ys, RV w u s xs ys) {n : Nat} (hq : ratsB vs n = true) :
    ∃ rs : List Rat, rs.length = vs.length ∧ rs.length ≤ n ∧ RX (some 8) w A rs := by
  obtain ⟨h1, h2, h3⟩ := hx
  unfold ratsB at hq
  simp only [Bool.and_eq_true, decide_eq_true_eq, List.all_eq_true] at hq
  obtain ⟨rs, hl, hi⟩ := pick_list (P := fun v q => IV w v q 8) vs (fun v hv => by
    obtain ⟨s, xs, ys, hR⟩ := h3 v hv
    have hs := hq.2 v hv
    have hR' := hR
    obtain ⟨A1, c1, B1, d1, e2, _⟩ := hR
    rw [e2] at hs
    rw [show smallV (Value.agg #[.bool s, .slice A1 xs.length c1, .slice B1 ys.length d1]) = (decide (xs.length ≤ 8) && decide (ys.length ≤ 8)) from rfl] at hs
    simp only [Bool.and_eq_true, decide_eq_true_eq] at hs
    exact ⟨_, s, xs, ys, hR', hs.1, hs.2, rfl⟩) 0
  exact ⟨rs, hl, by omega, vs, hr, LX.of_pick hl hi⟩
theorem xb8 {ps : List Rat} : ∀ q ∈ ps, XB (some 8) q 8 := fun _ _ => Nat.le_refl _
theorem RX.qs9 {w : World} {A : Option Addr} {ps : List Rat} (h : RX (some 8) w A ps) : ∀ q ∈ ps, qs q ≤ 9 := fun q hq => by
  obtain ⟨vs, h1, h2⟩ := h
  obtain ⟨j, hj, rfl⟩ := List.getElem_of_mem hq
  have := h2.2 j (by rw [h2.1]; exact hj)
  rw [show ps.getD j 0 = ps[j] by simp [hj]] at this
  exact IV.qs this

set_option maxRecDepth 100000 in
theorem few_q {A : Option Addr} {ca : Nat} {vs : List Value} {w : World} (hr : EL w w.heap.size A vs) (hx : vs.length ≤ ca ∧ ca ≤ 9223372036854775807 ∧ ∀ u ∈ vs, ∃ s xs ys, RV w u s xs ys) :
    Calls Try.prog 14 #[.slice A vs.length ca] w fun e w' => e = .returned (.bool (ratsB vs 10)) ∧ Up w w' := by
  have H := Lib.hid (rats_guard hr hx 10 (by omega))
  clear hr hx
  go_enter Try.func14, Try.ntmps14
  go_wp2_with fail
  refine H.out.mono ?_
  rintro e w1 ⟨rfl, U1⟩
  go_wp2_with fail
  go_ret
  exact ⟨rfl, U1⟩
end Go.Proofs.Ytkngegcfdabpoaa
