/-
  Rational numbers as values: magnitude, sign.
-/
import Derived.Test.YtoedmnalnpmleaaRLow
namespace Go.Proofs.Ytoedmnalnpmleaa
open Go.RowKit

set_option maxHeartbeats 1600000 in
theorem magnitude_any (z : Int) (w : World) (h1 : -9223372036854775808 ≤ z) (h2 : z ≤ 9223372036854775807) :
    Calls Try.prog 21 #[.int .i64 z] w (RetN w z.natAbs) := by
  obtain ⟨m, hm⟩ : ∃ m, m = z.natAbs := ⟨_, rfl⟩
  have hm2 : m < 18446744073709551616 := by omega
  have H := Lib.hid (fun wx => fromWord_any m wx hm2)
  rw [← hm]
  by_cases hz : z < 0
  · have hb : decide (z < 0) = true := by simp [hz]
    have e1 : IntKind.u64.wrap z = z + 18446744073709551616 := by unfold IntKind.wrap; simp [IntKind.bits, IntKind.signed]; omega
    have e2 : IntKind.u64.wrap (-(z + 18446744073709551616)) = (m : Int) := by clear e1; unfold IntKind.wrap; simp [IntKind.bits, IntKind.signed]; omega
    clear hm
    go_enter Try.func21, Try.ntmps21
    go_wp2_with fail
    refine (H.out _).mono ?_
    rintro e w2 ⟨A, c, rfl, k1, k2, k3, k4⟩
    go_wp2_with fail
    go_ret
    exact ⟨A, c, rfl, k1, k2, k3, k4⟩
  · have hb : decide (z < 0) = false := by simp; omega
    obtain rfl : z = (m : Int) := by omega
    clear hm
    go_enter Try.func21, Try.ntmps21
    go_wp2_with fail
    refine (H.out _).mono ?_
    rintro e w2 ⟨A, c, rfl, k1, k2, k3, k4⟩
    go_wp2_with fail
    go_ret
    exact ⟨A, c, rfl, k1, k2, k3, k4⟩
def FromIntRet (w0 : World) (z : Int) (e : Ending) (w' : World) : Prop := RetF w0 (decide (z < 0)) z.natAbs 1 e w'
set_option maxHeartbeats 3200000 in
theorem fromInt_any (z : Int) (w : World) (h1 : -9223372036854775808 ≤ z) (h2 : z ≤ 9223372036854775807) :
    Calls Try.prog 8 #[.int .i64 z] w (FromIntRet w z) := by
  have H := Lib.hid (fun wx => magnitude_any z wx h1 h2)
  obtain ⟨b, hb⟩ : ∃ b, b = decide (z < 0) := ⟨_, rfl⟩
  obtain ⟨m, hm⟩ : ∃ m, m = z.natAbs := ⟨_, rfl⟩
  have hlm : ln m ≤ 17179869183 := by
    have : ln m ≤ 3 := ln_le.2 (by rw [hm]; have : z.natAbs ≤ 9223372036854775808 := by omega
                                   exact Nat.lt_of_le_of_lt this (by decide))
    omega
  have hsg : lwS b m = b := by
    rw [lwS]
    split
    · rename_i h
      rw [hb]; symm; simp; omega
    · rfl
  have HS := Lib.hid hsg
  unfold FromIntRet
  rw [← hb, ← hm]
  rw [← hm] at H
  have HB := hb.symm
  clear hm hb hsg
  go_enter Try.func8, Try.ntmps8
  go_wp2_with fail
  obtain ⟨w1, hw1⟩ : ∃ w1, w1 = w.alloc (Obj.cells #[.bool false, .slice none 0 0, .slice none 0 0] 24) := ⟨_, rfl⟩
  have U1 : Up w w1 := by rw [hw1]; exact (Below.refl _ _).alloc (Nat.le_refl _) _
  have r1 : Blk w1 w.heap.size 24 #[.bool false, .slice none 0 0, .slice none 0 0] := by rw [hw1]; exact Blk.new _ _ _
  rw [← hw1]
  clear hw1
  refine (H.out w1).mono ?_
  rintro e w2 ⟨A, c, rfl, k1, k2, k3, k4⟩
  have U2 := U1.trans k4
  have r2 := r1.up k4
  have z2 := r2.lt
  go_wp2_with fail
  have s1 : NS (w2.alloc (Obj.cells #[Value.int IntKind.u32 1] 36)) (some ⟨w2.heap.size, 0, none⟩) 1 := by
    have hd : zs (digs 1) = [1] := by rw [digs_small (by omega) (by omega)]; rfl
    unfold NS
    rw [hd]
    exact SI.blk _ (Blk.new w2 36 _) (by simp)
  have U3 : Up w2 (w2.alloc (Obj.cells #[Value.int IntKind.u32 1] 36)) := (Below.refl _ _).alloc (Nat.le_refl _) _
  have HT := store_any b A c (some ⟨w2.heap.size, 0, none⟩) 1 m 1 (w2.alloc (Obj.cells #[Value.int IntKind.u32 1] 36)) (k3.up U3) s1 k1 k2 (by rw [ln_one]; omega) (by omega) hlm (by rw [ln_one]; omega) (by omega)
  rw [ln_one, HS.out, Nat.gcd_one_right, Nat.div_one, Nat.div_one] at HT
  try rw [HB]
  refine HT.mono ?_
  rintro e w3 ⟨v, rfl, ⟨A2, c2, B2, d2, rfl, q1, q2, q3, q4, q5, q6⟩, hU3⟩
  have U4 := U2.trans (U3.trans hU3)
  have r3 := (r2.up U3).up hU3
  obtain ⟨y0, y1, y2⟩ := tri r3
  have e0 := r3.frozen 0
  have e1 := r3.frozen 1
  have e2 := r3.frozen 2
  have z1 := r3.lt
  go_wp2_with fail
  obtain ⟨c0, c1, c2'⟩ := tri (tri_set r3 (.bool b) (.slice A2 (ln m) c2) (.slice B2 (ln 1) d2))
  refine bodyPost_ret (v := .agg #[.bool b, .slice A2 (ln m) c2, .slice B2 (ln 1) d2]) ?_ rfl ?_
  · simp [results, Try.results8, go_sem, c0, c1, c2']
  · exact ⟨_, rfl, ⟨A2, c2, B2, d2, rfl, q1.far r3 noint3 (only_tri _ _ _), q2.far r3 noint3 (only_tri _ _ _), q3, q4, q5, q6⟩, up_tri U4 (by omega) _ _ _⟩
end Go.Proofs.Ytoedmnalnpmleaa
