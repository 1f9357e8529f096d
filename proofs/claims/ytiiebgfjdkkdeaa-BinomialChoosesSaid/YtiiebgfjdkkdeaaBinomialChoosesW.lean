/-
  BinomialChooses: for every two integers the law returns true. Conditions: none.
-/
import Derived.Test.YtiiebgfjdkkdeaaBAwake
namespace Go.Proofs.Ytiiebgfjdkkdeaa
open Go.RowKit

theorem BinomialChooses_eq1 {n k : Int} {q1 q3 : Rat} (e1 : q1 = chooseV n k) (e3 : q3 = chooseV n k)  : q1 = q3 := by
  grind

set_option maxRecDepth 100000 in
set_option maxHeartbeats 6400000 in
theorem BinomialChooses_walk (n k : Int) (w : World) (hn : (Lit.int .i64 n).wf = true) (hk : (Lit.int .i64 k).wf = true) :
    Calls Try.prog 3 #[.int .i64 n, .int .i64 k] w fun e w' => e = .returned (.bool true) ∧ Up w w' := by
  simp [Lit.wf, IntKind.min, IntKind.max, IntKind.bits, IntKind.signed] at hn hk
  obtain ⟨hn1, hn2⟩ := hn
  obtain ⟨hk1, hk2⟩ := hk
  obtain ⟨b, hb⟩ : ∃ b, b = chooseB k := ⟨_, rfl⟩
  have HB := Lib.hid hb
  clear hb
  go_enter Try.func3, Try.ntmps3
  have U : Up w w := Up.refl w
  go_wp2_with fail
  have T1 := choose_q n k hn1 hn2 (w := w)
  rw [← HB.out] at T1
  refine T1.mono ?_
  rintro e w1 ⟨v1, rfl, hQ1, hU1⟩
  clear T1
  obtain ⟨s1x, A1, n1, c1, B1, m1, d1, rfl⟩ := hQ1.shape
  obtain ⟨q1, hq1⟩ : ∃ q, q = chooseV n k := ⟨_, rfl⟩
  rw [← hq1] at hQ1
  have S1 : Hid (qs q1 ≤ 400) := Lib.hid (by rw [hq1]; exact qs_chooseV (n) (k) hn1 hn2)
  have E1 := Lib.hid hq1
  have V1 := Lib.hid hQ1
  clear hq1 hQ1
  have u1 : Up w w1 := hU1
  replace U := Up.trans U u1
  clear hU1 u1
  go_wp2_with fail
  obtain ⟨w2, hw2⟩ : ∃ wx, wx = (w1.alloc (Obj.cells #[.bool s1x, .slice A1 n1 c1, .slice B1 m1 d1] 24)) := ⟨_, rfl⟩
  have hU2 : Up w1 w2 := by rw [hw2]; exact Below.alloc (Below.refl _ _) (Nat.le_refl _) _
  have bx1 : Blk w2 (w1.heap.size) 24 #[.bool s1x, .slice A1 n1 c1, .slice B1 m1 d1] := by rw [hw2]; exact Blk.new' _ _ _ (by simp)
  rw [← hw2]
  clear hw2
  have u2 : Up w1 w2 := hU2
  replace U := Up.trans U u2
  replace V1 := Lib.hid (V1.out.up u2)
  clear hU2 u2
  obtain ⟨g1, hg1⟩ : ∃ g, g = w1.heap.size := ⟨_, rfl⟩
  rw [← hg1] at bx1
  try rw [show w1.heap.size = g1 from hg1.symm]
  clear hg1
  obtain ⟨bx1a, bx1b, bx1c⟩ := tri bx1
  go_wp2_with fail
  have T3 := rChoose_q n k hn1 hn2 (w := w2)
  rw [← HB.out] at T3
  refine T3.mono ?_
  rintro e w3 ⟨v3, rfl, hQ3, hU3⟩
  clear T3
  obtain ⟨s3x, A3, n3, c3, B3, m3, d3, rfl⟩ := hQ3.shape
  obtain ⟨q3, hq3⟩ : ∃ q, q = chooseV n k := ⟨_, rfl⟩
  rw [← hq3] at hQ3
  have S3 : Hid (qs q3 ≤ 400) := Lib.hid (by rw [hq3]; exact qs_chooseV (n) (k) hn1 hn2)
  have E3 := Lib.hid hq3
  have V3 := Lib.hid hQ3
  clear hq3 hQ3
  have u3 : Up w2 w3 := hU3
  replace U := Up.trans U u3
  replace V1 := Lib.hid (V1.out.up u3)
  replace bx1 := Blk.up bx1 u3
  clear hU3 u3
  clear bx1a bx1b bx1c
  obtain ⟨bx1a, bx1b, bx1c⟩ := tri bx1
  have zbx1 := bx1.lt
  go_wp2_with fail
  clear zbx1
  obtain ⟨w4, hw4⟩ : ∃ wx, wx = (w3.alloc (Obj.cells #[.bool s3x, .slice A3 n3 c3, .slice B3 m3 d3] 24)) := ⟨_, rfl⟩
  have hU4 : Up w3 w4 := by rw [hw4]; exact Below.alloc (Below.refl _ _) (Nat.le_refl _) _
  have bx3 : Blk w4 (w3.heap.size) 24 #[.bool s3x, .slice A3 n3 c3, .slice B3 m3 d3] := by rw [hw4]; exact Blk.new' _ _ _ (by simp)
  rw [← hw4]
  clear hw4
  have u4 : Up w3 w4 := hU4
  replace U := Up.trans U u4
  replace V1 := Lib.hid (V1.out.up u4)
  replace V3 := Lib.hid (V3.out.up u4)
  replace bx1 := Blk.up bx1 u4
  clear hU4 u4
  clear bx1a bx1b bx1c
  obtain ⟨bx1a, bx1b, bx1c⟩ := tri bx1
  obtain ⟨g3, hg3⟩ : ∃ g, g = w3.heap.size := ⟨_, rfl⟩
  rw [← hg3] at bx3
  try rw [show w3.heap.size = g3 from hg3.symm]
  clear hg3
  clear bx1a bx1b bx1c
  obtain ⟨bx1a, bx1b, bx1c⟩ := tri bx1
  obtain ⟨bx3a, bx3b, bx3c⟩ := tri bx3
  go_wp2_with fail
  have T5 := sameRat_q V1.out V3.out (by have := S1.out; omega) (by have := S3.out; omega)
  rw [decide_eq_true (BinomialChooses_eq1 (n := n) (k := k) E1.out E3.out )] at T5
  refine T5.mono ?_
  rintro e w5 ⟨rfl, hU5⟩
  clear T5
  have u5 : Up w4 w5 := hU5
  replace U := Up.trans U u5
  replace V1 := Lib.hid (V1.out.up u5)
  replace V3 := Lib.hid (V3.out.up u5)
  replace bx1 := Blk.up bx1 u5
  replace bx3 := Blk.up bx3 u5
  clear hU5 u5
  clear bx1a bx1b bx1c bx3a bx3b bx3c
  obtain ⟨bx1a, bx1b, bx1c⟩ := tri bx1
  obtain ⟨bx3a, bx3b, bx3c⟩ := tri bx3
  clear V1 V3
  go_wp2_with fail
  refine (awake02_any _).mono ?_
  rintro e w6 ⟨rfl, hU6⟩
  have u6 : Up w5 w6 := hU6
  replace U := Up.trans U u6
  replace bx1 := Blk.up bx1 u6
  replace bx3 := Blk.up bx3 u6
  clear hU6 u6
  clear bx1a bx1b bx1c bx3a bx3b bx3c
  obtain ⟨bx1a, bx1b, bx1c⟩ := tri bx1
  obtain ⟨bx3a, bx3b, bx3c⟩ := tri bx3
  go_wp2_with fail
  go_ret
  exact ⟨rfl, U⟩
end Go.Proofs.Ytiiebgfjdkkdeaa
