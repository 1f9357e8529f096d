/-
  Rational numbers as values: Small.
-/
import Derived.Test.YtoedmnalnpmleaaRSign
namespace Go.Proofs.Ytoedmnalnpmleaa
open Go.RowKit

theorem ln_word {m : Nat} (h : m ≤ 9223372036854775808) : ln m ≤ 3 := ln_le.2 (Nat.lt_of_le_of_lt h (by decide))
set_option maxHeartbeats 3200000 in
theorem small_yes (x y : Int) (w : World) (h1 : -9223372036854775808 ≤ x) (h2 : x ≤ 9223372036854775807) (h3 : -9223372036854775808 ≤ y) (h4 : y ≤ 9223372036854775807) (hy : y ≠ 0) :
    Calls Try.prog 28 #[.int .i64 x, .int .i64 y] w
      (RetF w (lwS (decide (x < 0) != decide (y < 0)) x.natAbs) (x.natAbs / Nat.gcd x.natAbs y.natAbs) (y.natAbs / Nat.gcd x.natAbs y.natAbs)) := by
  have H1 := Lib.hid (fun wx => magnitude_any x wx h1 h2)
  have H2 := Lib.hid (fun wx => magnitude_any y wx h3 h4)
  have hy0 : (y == 0) = false := by simp [hy]
  have hb0 : y.natAbs ≠ 0 := by omega
  have hl1 : x.natAbs ≤ 9223372036854775808 := by omega
  have hl2 : y.natAbs ≤ 9223372036854775808 := by omega
  obtain ⟨p, hp⟩ : ∃ p, decide (x < 0) = p := ⟨_, rfl⟩
  obtain ⟨q, hq⟩ : ∃ q, decide (y < 0) = q := ⟨_, rfl⟩
  rw [hp, hq]
  obtain ⟨s, hs⟩ : ∃ s, s = (p != q) := ⟨_, rfl⟩
  rw [← hs]
  cases p <;> cases q <;> (simp at hs; subst hs)
  all_goals
    obtain ⟨m, hm⟩ : ∃ m, m = x.natAbs := ⟨_, rfl⟩
    obtain ⟨k, hk⟩ : ∃ k, k = y.natAbs := ⟨_, rfl⟩
    rw [← hm] at H1 hl1
    rw [← hk] at H2 hl2 hb0
    rw [← hm, ← hk]
    clear hm hk hy
    go_enter Try.func28, Try.ntmps28
    go_wp2_with fail
    obtain ⟨w1, hw1⟩ : ∃ w1, w1 = w.alloc (Obj.cells #[.bool false, .slice none 0 0, .slice none 0 0] 24) := ⟨_, rfl⟩
    have U1 : Up w w1 := by rw [hw1]; exact (Below.refl _ _).alloc (Nat.le_refl _) _
    have r1 : Blk w1 w.heap.size 24 #[.bool false, .slice none 0 0, .slice none 0 0] := by rw [hw1]; exact Blk.new _ _ _
    rw [← hw1]
    clear hw1
    refine (H1.out w1).mono ?_
    rintro e w2 ⟨A, c, rfl, k1, k2, k3, k4⟩
    have U2 := U1.trans k4
    have r2 := r1.up k4
    go_wp2_with fail
    refine (H2.out w2).mono ?_
    rintro e w3 ⟨B, d, rfl, j1, j2, j3, j4⟩
    have U3 := U2.trans j4
    have r3 := r2.up j4
    have z3 := r3.lt
    go_wp2_with fail
    refine (store_any _ A c B d m k w3 (k3.up j4) j3 k1 k2 j1 j2 (Nat.le_trans (ln_word hl1) (by omega)) (Nat.le_trans (ln_word hl2) (by omega)) hb0).mono ?_
    rintro e w4 ⟨v, rfl, ⟨A2, c2, B2, d2, rfl, q1, q2, q3, q4, q5, q6⟩, hU4⟩
    have U4 := U3.trans hU4
    have r4 := r3.up hU4
    obtain ⟨y0, y1, y2⟩ := tri r4
    have e0 := r4.frozen 0
    have e1 := r4.frozen 1
    have e2 := r4.frozen 2
    have z1 := r4.lt
    go_wp2_with fail
    first
      | (obtain ⟨c0, c1, c2'⟩ := tri (tri_set r4 (.bool (lwS true m)) (.slice A2 (ln (m / Nat.gcd m k)) c2) (.slice B2 (ln (k / Nat.gcd m k)) d2))
         refine bodyPost_ret (v := .agg #[.bool (lwS true m), .slice A2 (ln (m / Nat.gcd m k)) c2, .slice B2 (ln (k / Nat.gcd m k)) d2]) ?_ rfl ?_
         · simp [results, Try.results28, go_sem, c0, c1, c2']
         · exact ⟨_, rfl, ⟨A2, c2, B2, d2, rfl, q1.far r4 noint3 (only_tri _ _ _), q2.far r4 noint3 (only_tri _ _ _), q3, q4, q5, q6⟩, up_tri U4 (by omega) _ _ _⟩)
      | (obtain ⟨c0, c1, c2'⟩ := tri (tri_set r4 (.bool (lwS false m)) (.slice A2 (ln (m / Nat.gcd m k)) c2) (.slice B2 (ln (k / Nat.gcd m k)) d2))
         refine bodyPost_ret (v := .agg #[.bool (lwS false m), .slice A2 (ln (m / Nat.gcd m k)) c2, .slice B2 (ln (k / Nat.gcd m k)) d2]) ?_ rfl ?_
         · simp [results, Try.results28, go_sem, c0, c1, c2']
         · exact ⟨_, rfl, ⟨A2, c2, B2, d2, rfl, q1.far r4 noint3 (only_tri _ _ _), q2.far r4 noint3 (only_tri _ _ _), q3, q4, q5, q6⟩, up_tri U4 (by omega) _ _ _⟩)
set_option maxHeartbeats 3200000 in
theorem small_zero (x : Int) (w : World) :
    Calls Try.prog 28 #[.int .i64 x, .int .i64 0] w (RetF w false 0 1) := by
  have HF : ∀ wx, Calls Try.prog 8 #[.int .i64 0] wx (RetF wx false 0 1) := fun wx => fromInt_any 0 wx (by omega) (by omega)
  have H := Lib.hid HF
  clear HF
  go_enter Try.func28, Try.ntmps28
  go_wp2_with fail
  obtain ⟨w1, hw1⟩ : ∃ w1, w1 = w.alloc (Obj.cells #[.bool false, .slice none 0 0, .slice none 0 0] 24) := ⟨_, rfl⟩
  have U1 : Up w w1 := by rw [hw1]; exact (Below.refl _ _).alloc (Nat.le_refl _) _
  have r1 : Blk w1 w.heap.size 24 #[.bool false, .slice none 0 0, .slice none 0 0] := by rw [hw1]; exact Blk.new _ _ _
  rw [← hw1]
  clear hw1
  refine (H.out w1).mono ?_
  rintro e w4 ⟨v, rfl, ⟨A2, c2, B2, d2, rfl, q1, q2, q3, q4, q5, q6⟩, hU4⟩
  have U4 := U1.trans hU4
  have r4 := r1.up hU4
  obtain ⟨y0, y1, y2⟩ := tri r4
  have e0 := r4.frozen 0
  have e1 := r4.frozen 1
  have e2 := r4.frozen 2
  have z1 := r4.lt
  go_wp2_with fail
  obtain ⟨c0, c1, c2'⟩ := tri (tri_set r4 (.bool false) (.slice A2 (ln 0) c2) (.slice B2 (ln 1) d2))
  refine bodyPost_ret (v := .agg #[.bool false, .slice A2 (ln 0) c2, .slice B2 (ln 1) d2]) ?_ rfl ?_
  · simp [results, Try.results28, go_sem, c0, c1, c2']
  · exact ⟨_, rfl, ⟨A2, c2, B2, d2, rfl, q1.far r4 noint3 (only_tri _ _ _), q2.far r4 noint3 (only_tri _ _ _), q3, q4, q5, q6⟩, up_tri U4 (by omega) _ _ _⟩
end Go.Proofs.Ytoedmnalnpmleaa
