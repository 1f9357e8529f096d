/-
  BinomialPascal: for every two integers the law returns true. Conditions: none.
-/
import Derived.Test.YtiiebgfjdkkdeaaBAwake
import Derived.Test.YtiiebgfjdkkdeaaPI
namespace Go.Proofs.Ytiiebgfjdkkdeaa
open Go.RowKit

theorem pascal_val1 (m j : Nat) (hj : j ≤ 20) : chooseV ((m : Int) + 1) ((j : Int) + 1) = bc ((m : Rat) + 1) (j + 1) ∧ chooseB ((j : Int) + 1) = true := by
  have h := chooseV_yes (n := (m : Int) + 1) (k := (j : Int) + 1) (by omega) (by omega)
  rw [h.1, h.2, show max 0 ((m : Int) + 1) = (m : Int) + 1 by omega, show ((j : Int) + 1).toNat = j + 1 by omega, Rat.intCast_add, Rat.intCast_natCast]
  exact ⟨rfl, rfl⟩
theorem pascal_val2 (m j : Nat) (hj : j ≤ 20) : chooseV (m : Int) (j : Int) = bc (m : Rat) j ∧ chooseB (j : Int) = true := by
  have h := chooseV_yes (n := (m : Int)) (k := (j : Int)) (by omega) (by omega)
  rw [h.1, h.2, show max 0 (m : Int) = (m : Int) by omega, Int.toNat_natCast, Rat.intCast_natCast]
  exact ⟨rfl, rfl⟩
theorem pascal_val3 (m j : Nat) (hj : j ≤ 20) : chooseV (m : Int) ((j : Int) + 1) = bc (m : Rat) (j + 1) ∧ chooseB ((j : Int) + 1) = true := by
  have h := chooseV_yes (n := (m : Int)) (k := (j : Int) + 1) (by omega) (by omega)
  rw [h.1, h.2, show max 0 (m : Int) = (m : Int) by omega, show ((j : Int) + 1).toNat = j + 1 by omega, Rat.intCast_natCast]
  exact ⟨rfl, rfl⟩

theorem BinomialPascal_eq1 {m j : Nat} {q1 q8 q3 q5 : Rat} (e1 : q1 = bc ((m : Rat) + 1) (j + 1)) (e3 : q3 = bc (m : Rat) j) (e5 : q5 = bc (m : Rat) (j + 1)) (e8 : q8 = q3 + q5)  : q1 = q8 := by
  subst e1 e3 e5 e8; exact bc_pascal _ _

set_option maxRecDepth 100000 in
set_option maxHeartbeats 6400000 in
theorem BinomialPascal_walk (n k : Int) (w : World) (hn : (Lit.int .i64 n).wf = true) (hk : (Lit.int .i64 k).wf = true) :
    Calls Try.prog 4 #[.int .i64 n, .int .i64 k] w fun e w' => e = .returned (.bool true) ∧ Up w w' := by
  simp [Lit.wf, IntKind.min, IntKind.max, IntKind.bits, IntKind.signed] at hn hk
  obtain ⟨hn1, hn2⟩ := hn
  obtain ⟨hk1, hk2⟩ := hk
  by_cases h0 : n < 0
  · have t0 : decide (n < 0) = true := by simpa using h0
    clear h0
    go_enter Try.func4, Try.ntmps4
    go_wp2_with fail
    go_ret
    exact ⟨rfl, Up.refl _⟩
  have t0 : decide (n < 0) = false := by simpa using h0
  by_cases h1 : 1099511627776 < n
  · have t1 : decide (1099511627776 < n) = true := by simpa using h1
    clear h1
    go_enter Try.func4, Try.ntmps4
    go_wp2_with fail
    go_ret
    exact ⟨rfl, Up.refl _⟩
  have t1 : decide (1099511627776 < n) = false := by simpa using h1
  by_cases h2 : k < 0
  · have t2 : decide (k < 0) = true := by simpa using h2
    clear h2
    go_enter Try.func4, Try.ntmps4
    go_wp2_with fail
    go_ret
    exact ⟨rfl, Up.refl _⟩
  have t2 : decide (k < 0) = false := by simpa using h2
  by_cases h3 : 20 < k
  · have t3 : decide (20 < k) = true := by simpa using h3
    clear h3
    go_enter Try.func4, Try.ntmps4
    go_wp2_with fail
    go_ret
    exact ⟨rfl, Up.refl _⟩
  have t3 : decide (20 < k) = false := by simpa using h3
  obtain ⟨m, rfl⟩ : ∃ m : Nat, n = (m : Int) := ⟨n.toNat, by omega⟩
  obtain ⟨j, rfl⟩ : ∃ j : Nat, k = (j : Int) := ⟨k.toNat, by omega⟩
  have hm : m ≤ 1099511627776 := by omega
  have hj : j ≤ 20 := by omega
  have P1 := Lib.hid (pascal_val1 m j hj)
  have P2 := Lib.hid (pascal_val2 m j hj)
  have P3 := Lib.hid (pascal_val3 m j hj)
  have e1 : IntKind.i64.wrap ((m : Int) + 1) = (m : Int) + 1 := IntWalk.i64_in _ (by omega)
  have e2 : IntKind.i64.wrap ((j : Int) + 1) = (j : Int) + 1 := IntWalk.i64_in _ (by omega)
  clear h0 h1 h2 h3
  go_enter Try.func4, Try.ntmps4
  have U : Up w w := Up.refl w
  go_wp2_with fail
  have T1 := choose_q ((m : Int) + 1) ((j : Int) + 1) (by omega) (by omega) (w := w)
  rw [P1.out.1, P1.out.2] at T1
  refine T1.mono ?_
  rintro e w1 ⟨v1, rfl, hQ1, hU1⟩
  clear T1
  obtain ⟨s1x, A1, n1, c1, B1, m1, d1, rfl⟩ := hQ1.shape
  obtain ⟨q1, hq1⟩ : ∃ q, q = bc ((m : Rat) + 1) (j + 1) := ⟨_, rfl⟩
  rw [← hq1] at hQ1
  have S1 : Hid (qs q1 ≤ 400) := Lib.hid (by rw [hq1]; rw [← P1.out.1]; exact qs_chooseV _ _ (by omega) (by omega))
  have E1 := Lib.hid hq1
  have V1 := Lib.hid hQ1
  clear hq1 hQ1
  have u1 : Up w w1 := hU1
  replace U := Up.trans U u1
  clear hU1 u1
  go_wp2_with fail
  obtain ⟨w2, hw2⟩ : ∃ wx, wx = (w1.alloc (Obj.cells #[.bool s1x, .slice A1 n1 c1, .slice B1 m1 d1] 24)) := ⟨_, rfl⟩
  have hU2 : Up w1 w2 := by rw [hw2]; exact Below.alloc (Below.refl _ _) (Nat.le_refl _) _
  have bx1 : Blk w2 (w1.heap.size) 24 #[.bool s1x, .slice A1 n1 c1, .slice B1 m1 d1] := by rw [hw2]; exact Blk.new' _ _ _ (by simp)
  rw [← hw2]
  clear hw2
  have u2 : Up w1 w2 := hU2
  replace U := Up.trans U u2
  replace V1 := Lib.hid (V1.out.up u2)
  clear hU2 u2
  obtain ⟨g1, hg1⟩ : ∃ g, g = w1.heap.size := ⟨_, rfl⟩
  rw [← hg1] at bx1
  try rw [show w1.heap.size = g1 from hg1.symm]
  clear hg1
  obtain ⟨bx1a, bx1b, bx1c⟩ := tri bx1
  go_wp2_with fail
  have T3 := choose_q (m : Int) (j : Int) (by omega) (by omega) (w := w2)
  rw [P2.out.1, P2.out.2] at T3
  refine T3.mono ?_
  rintro e w3 ⟨v3, rfl, hQ3, hU3⟩
  clear T3
  obtain ⟨s3x, A3, n3, c3, B3, m3, d3, rfl⟩ := hQ3.shape
  obtain ⟨q3, hq3⟩ : ∃ q, q = bc (m : Rat) j := ⟨_, rfl⟩
  rw [← hq3] at hQ3
  have S3 : Hid (qs q3 ≤ 400) := Lib.hid (by rw [hq3]; rw [← P2.out.1]; exact qs_chooseV _ _ (by omega) (by omega))
  have E3 := Lib.hid hq3
  have V3 := Lib.hid hQ3
  clear hq3 hQ3
  have u3 : Up w2 w3 := hU3
  replace U := Up.trans U u3
  replace V1 := Lib.hid (V1.out.up u3)
  replace bx1 := Blk.up bx1 u3
  clear hU3 u3
  clear bx1a bx1b bx1c
  obtain ⟨bx1a, bx1b, bx1c⟩ := tri bx1
  have zbx1 := bx1.lt
  go_wp2_with fail
  clear zbx1
  obtain ⟨w4, hw4⟩ : ∃ wx, wx = (w3.alloc (Obj.cells #[.bool s3x, .slice A3 n3 c3, .slice B3 m3 d3] 24)) := ⟨_, rfl⟩
  have hU4 : Up w3 w4 := by rw [hw4]; exact Below.alloc (Below.refl _ _) (Nat.le_refl _) _
  have bx3 : Blk w4 (w3.heap.size) 24 #[.bool s3x, .slice A3 n3 c3, .slice B3 m3 d3] := by rw [hw4]; exact Blk.new' _ _ _ (by simp)
  rw [← hw4]
  clear hw4
  have u4 : Up w3 w4 := hU4
  replace U := Up.trans U u4
  replace V1 := Lib.hid (V1.out.up u4)
  replace V3 := Lib.hid (V3.out.up u4)
  replace bx1 := Blk.up bx1 u4
  clear hU4 u4
  clear bx1a bx1b bx1c
  obtain ⟨bx1a, bx1b, bx1c⟩ := tri bx1
  obtain ⟨g3, hg3⟩ : ∃ g, g = w3.heap.size := ⟨_, rfl⟩
  rw [← hg3] at bx3
  try rw [show w3.heap.size = g3 from hg3.symm]
  clear hg3
  clear bx1a bx1b bx1c
  obtain ⟨bx1a, bx1b, bx1c⟩ := tri bx1
  obtain ⟨bx3a, bx3b, bx3c⟩ := tri bx3
  go_wp2_with fail
  have T5 := choose_q (m : Int) ((j : Int) + 1) (by omega) (by omega) (w := w4)
  rw [P3.out.1, P3.out.2] at T5
  refine T5.mono ?_
  rintro e w5 ⟨v5, rfl, hQ5, hU5⟩
  clear T5
  obtain ⟨s5x, A5, n5, c5, B5, m5, d5, rfl⟩ := hQ5.shape
  obtain ⟨q5, hq5⟩ : ∃ q, q = bc (m : Rat) (j + 1) := ⟨_, rfl⟩
  rw [← hq5] at hQ5
  have S5 : Hid (qs q5 ≤ 400) := Lib.hid (by rw [hq5]; rw [← P3.out.1]; exact qs_chooseV _ _ (by omega) (by omega))
  have E5 := Lib.hid hq5
  have V5 := Lib.hid hQ5
  clear hq5 hQ5
  have u5 : Up w4 w5 := hU5
  replace U := Up.trans U u5
  replace V1 := Lib.hid (V1.out.up u5)
  replace V3 := Lib.hid (V3.out.up u5)
  replace bx1 := Blk.up bx1 u5
  replace bx3 := Blk.up bx3 u5
  clear hU5 u5
  clear bx1a bx1b bx1c bx3a bx3b bx3c
  obtain ⟨bx1a, bx1b, bx1c⟩ := tri bx1
  obtain ⟨bx3a, bx3b, bx3c⟩ := tri bx3
  have zbx1 := bx1.lt
  have zbx3 := bx3.lt
  go_wp2_with fail
  clear zbx1 zbx3
  obtain ⟨w6, hw6⟩ : ∃ wx, wx = (w5.alloc (Obj.cells #[.bool s5x, .slice A5 n5 c5, .slice B5 m5 d5] 24)) := ⟨_, rfl⟩
  have hU6 : Up w5 w6 := by rw [hw6]; exact Below.alloc (Below.refl _ _) (Nat.le_refl _) _
  have bx5 : Blk w6 (w5.heap.size) 24 #[.bool s5x, .slice A5 n5 c5, .slice B5 m5 d5] := by rw [hw6]; exact Blk.new' _ _ _ (by simp)
  rw [← hw6]
  clear hw6
  have u6 : Up w5 w6 := hU6
  replace U := Up.trans U u6
  replace V1 := Lib.hid (V1.out.up u6)
  replace V3 := Lib.hid (V3.out.up u6)
  replace V5 := Lib.hid (V5.out.up u6)
  replace bx1 := Blk.up bx1 u6
  replace bx3 := Blk.up bx3 u6
  clear hU6 u6
  clear bx1a bx1b bx1c bx3a bx3b bx3c
  obtain ⟨bx1a, bx1b, bx1c⟩ := tri bx1
  obtain ⟨bx3a, bx3b, bx3c⟩ := tri bx3
  obtain ⟨g5, hg5⟩ : ∃ g, g = w5.heap.size := ⟨_, rfl⟩
  rw [← hg5] at bx5
  try rw [show w5.heap.size = g5 from hg5.symm]
  clear hg5
  clear bx1a bx1b bx1c bx3a bx3b bx3c
  obtain ⟨bx1a, bx1b, bx1c⟩ := tri bx1
  obtain ⟨bx3a, bx3b, bx3c⟩ := tri bx3
  obtain ⟨bx5a, bx5b, bx5c⟩ := tri bx5
  go_wp2_with fail
  clear bx1a bx1b bx1c bx3a bx3b bx3c bx5a bx5b bx5c
  have s7 := (And.intro (tri bx1) (And.intro (tri bx3) (tri bx5)))
  refine wp_region_noPanic ?_
  refine wp_region_sched (S := (fun wx => (wx.cell? ⟨g1, 0, none⟩ = some (.bool s1x) ∧ wx.cell? ⟨g1, 1, none⟩ = some (.slice A1 n1 c1) ∧ wx.cell? ⟨g1, 2, none⟩ = some (.slice B1 m1 d1)) ∧ (wx.cell? ⟨g3, 0, none⟩ = some (.bool s3x) ∧ wx.cell? ⟨g3, 1, none⟩ = some (.slice A3 n3 c3) ∧ wx.cell? ⟨g3, 2, none⟩ = some (.slice B3 m3 d3)) ∧ (wx.cell? ⟨g5, 0, none⟩ = some (.bool s5x) ∧ wx.cell? ⟨g5, 1, none⟩ = some (.slice A5 n5 c5) ∧ wx.cell? ⟨g5, 2, none⟩ = some (.slice B5 m5 d5)))) [(0, false), (1, false), (2, false), (3, false), (4, false), (5, false), (6, false), (7, false), (8, false), (9, false), (10, false), (11, true), (12, true), (13, false), (14, false), (15, true), (16, false), (17, false)] (by kernel_rfl) (by as_aux_lemma => kernel_rfl) (by as_aux_lemma => kernel_rfl) (by as_aux_lemma => kernel_rfl) (fun _ _ _ _ _ h => h) s7 ?_
  intro O7 HO7
  refine wpSched_take (i := 0) (v := ?_) (by as_aux_lemma => rw [HO7.out]; simp only [List.getElem?_toArray, List.getElem?_cons_zero]; rfl) (Or.inl ⟨(by rfl), ?_⟩) ?_
  rotate_left
  · as_aux_lemma => intro wx hSx; (try dsimp only at hSx); go_simp; try with_reducible rfl
  try simp only [Act.put, List.setIfInBounds_toArray, List.set_cons_zero, List.set_cons_succ]
  refine wpSched_take (i := 1) (v := ?_) (by as_aux_lemma => rw [HO7.out]; simp only [List.getElem?_toArray, List.getElem?_cons_succ, List.getElem?_cons_zero]; rfl) (Or.inl ⟨(by rfl), ?_⟩) ?_
  rotate_left
  · as_aux_lemma => intro wx hSx; (try dsimp only at hSx); go_simp; try with_reducible rfl
  try simp only [Act.put, List.setIfInBounds_toArray, List.set_cons_zero, List.set_cons_succ]
  refine wpSched_take (i := 2) (v := ?_) (by as_aux_lemma => rw [HO7.out]; simp only [List.getElem?_toArray, List.getElem?_cons_succ, List.getElem?_cons_zero]; rfl) (Or.inl ⟨(by as_aux_lemma => rw [HO7.out]; rfl), ?_⟩) ?_
  rotate_left
  · as_aux_lemma => intro wx hSx; (try dsimp only at hSx); go_simp; try with_reducible rfl
  try simp only [Act.put, List.setIfInBounds_toArray, List.set_cons_zero, List.set_cons_succ]
  refine wpSched_take (i := 3) (v := ?_) (by as_aux_lemma => rw [HO7.out]; simp only [List.getElem?_toArray, List.getElem?_cons_succ, List.getElem?_cons_zero]; rfl) (Or.inl ⟨(by rfl), ?_⟩) ?_
  rotate_left
  · as_aux_lemma => intro wx hSx; (try dsimp only at hSx); go_simp; try with_reducible rfl
  try simp only [Act.put, List.setIfInBounds_toArray, List.set_cons_zero, List.set_cons_succ]
  refine wpSched_take (i := 4) (v := ?_) (by as_aux_lemma => rw [HO7.out]; simp only [List.getElem?_toArray, List.getElem?_cons_succ, List.getElem?_cons_zero]; rfl) (Or.inl ⟨(by rfl), ?_⟩) ?_
  rotate_left
  · as_aux_lemma => intro wx hSx; (try dsimp only at hSx); go_simp; try with_reducible rfl
  try simp only [Act.put, List.setIfInBounds_toArray, List.set_cons_zero, List.set_cons_succ]
  refine wpSched_take (i := 5) (v := ?_) (by as_aux_lemma => rw [HO7.out]; simp only [List.getElem?_toArray, List.getElem?_cons_succ, List.getElem?_cons_zero]; rfl) (Or.inl ⟨(by as_aux_lemma => rw [HO7.out]; rfl), ?_⟩) ?_
  rotate_left
  · as_aux_lemma => intro wx hSx; (try dsimp only at hSx); go_simp; try with_reducible rfl
  try simp only [Act.put, List.setIfInBounds_toArray, List.set_cons_zero, List.set_cons_succ]
  refine wpSched_take (i := 6) (v := ?_) (by as_aux_lemma => rw [HO7.out]; simp only [List.getElem?_toArray, List.getElem?_cons_succ, List.getElem?_cons_zero]; rfl) (Or.inl ⟨(by rfl), ?_⟩) ?_
  rotate_left
  · as_aux_lemma => intro wx hSx; (try dsimp only at hSx); go_simp; try with_reducible rfl
  try simp only [Act.put, List.setIfInBounds_toArray, List.set_cons_zero, List.set_cons_succ]
  refine wpSched_take (i := 7) (v := ?_) (by as_aux_lemma => rw [HO7.out]; simp only [List.getElem?_toArray, List.getElem?_cons_succ, List.getElem?_cons_zero]; rfl) (Or.inl ⟨(by rfl), ?_⟩) ?_
  rotate_left
  · as_aux_lemma => intro wx hSx; (try dsimp only at hSx); go_simp; try with_reducible rfl
  try simp only [Act.put, List.setIfInBounds_toArray, List.set_cons_zero, List.set_cons_succ]
  refine wpSched_take (i := 8) (v := ?_) (by as_aux_lemma => rw [HO7.out]; simp only [List.getElem?_toArray, List.getElem?_cons_succ, List.getElem?_cons_zero]; rfl) (Or.inl ⟨(by as_aux_lemma => rw [HO7.out]; rfl), ?_⟩) ?_
  rotate_left
  · as_aux_lemma => intro wx hSx; (try dsimp only at hSx); go_simp; try with_reducible rfl
  try simp only [Act.put, List.setIfInBounds_toArray, List.set_cons_zero, List.set_cons_succ]
  refine wpSched_take (i := 9) (v := ?_) (by as_aux_lemma => rw [HO7.out]; simp only [List.getElem?_toArray, List.getElem?_cons_succ, List.getElem?_cons_zero]; rfl) (Or.inl ⟨(by as_aux_lemma => rw [HO7.out]; rfl), ?_⟩) ?_
  rotate_left
  · as_aux_lemma => intro wx hSx; (try dsimp only at hSx); go_simp; try with_reducible rfl
  try simp only [Act.put, List.setIfInBounds_toArray, List.set_cons_zero, List.set_cons_succ]
  refine wpSched_take (i := 10) (v := ?_) (by as_aux_lemma => rw [HO7.out]; simp only [List.getElem?_toArray, List.getElem?_cons_succ, List.getElem?_cons_zero]; rfl) (Or.inl ⟨(by as_aux_lemma => rw [HO7.out]; rfl), ?_⟩) ?_
  rotate_left
  · as_aux_lemma => intro wx hSx; (try dsimp only at hSx); go_simp; try with_reducible rfl
  try simp only [Act.put, List.setIfInBounds_toArray, List.set_cons_zero, List.set_cons_succ]
  refine wpSched_call (i := 11) (by as_aux_lemma => rw [HO7.out]; simp only [List.getElem?_toArray, List.getElem?_cons_succ, List.getElem?_cons_zero]; rfl) (by as_aux_lemma => rw [HO7.out]; rfl) (fun K' hK => ?_)
  go_simp
  go_at_call 14
  refine (rAdd_q ((V3.out.up (Up.refl w6).drew).iv S3.out) ((V5.out.up (Up.refl w6).drew).iv S5.out) (by omega)).mono ?_
  rintro e w8 ⟨v8, rfl, hQ8, hU8⟩
  obtain ⟨s8x, A8, n8, c8, B8, m8, d8, rfl⟩ := hQ8.shape
  obtain ⟨q8, hq8⟩ : ∃ q, q = q3 + q5 := ⟨_, rfl⟩
  rw [← hq8] at hQ8
  have S8 : Hid (qs q8 ≤ 801) := Lib.hid (by (rw [hq8]; have := qs_add q3 q5; have := S3.out; have := S5.out; omega))
  have E8 := Lib.hid hq8
  clear hq8
  have V8 := Lib.hid hQ8
  clear hQ8
  have u8 : Up w6 w8 := Up.trans (Up.refl w6).drew hU8
  replace U := Up.trans U u8
  replace V1 := Lib.hid (V1.out.up u8)
  replace V3 := Lib.hid (V3.out.up u8)
  replace V5 := Lib.hid (V5.out.up u8)
  replace bx1 := Blk.up bx1 u8
  replace bx3 := Blk.up bx3 u8
  replace bx5 := Blk.up bx5 u8
  clear hU8 u8
  have s8 := (And.intro (tri bx1) (And.intro (tri bx3) (tri bx5)))
  go_wp2_with fail
  refine hK.out _ _ s8 (fun _ => ?_)
  clear hK K'
  try simp only [Act.put, List.setIfInBounds_toArray, List.set_cons_zero, List.set_cons_succ]
  clear s7
  refine wpSched_call (i := 12) (by as_aux_lemma => rw [HO7.out]; simp only [List.getElem?_toArray, List.getElem?_cons_succ, List.getElem?_cons_zero]; rfl) (by as_aux_lemma => rw [HO7.out]; rfl) (fun K' hK => ?_)
  go_simp
  go_at_call 12
  have T9 := sameRat_q V1.out V8.out (by have := S1.out; omega) (by have := S8.out; omega)
  rw [decide_eq_true (BinomialPascal_eq1 (m := m) (j := j) E1.out E3.out E5.out E8.out )] at T9
  refine T9.mono ?_
  rintro e w9 ⟨rfl, hU9⟩
  clear T9
  have u9 : Up w8 w9 := hU9
  replace U := Up.trans U u9
  replace V1 := Lib.hid (V1.out.up u9)
  replace V3 := Lib.hid (V3.out.up u9)
  replace V5 := Lib.hid (V5.out.up u9)
  replace V8 := Lib.hid (V8.out.up u9)
  replace bx1 := Blk.up bx1 u9
  replace bx3 := Blk.up bx3 u9
  replace bx5 := Blk.up bx5 u9
  clear hU9 u9
  have s9 := (And.intro (tri bx1) (And.intro (tri bx3) (tri bx5)))
  go_wp2_with fail
  refine hK.out _ _ s9 (fun _ => ?_)
  clear hK K'
  try simp only [Act.put, List.setIfInBounds_toArray, List.set_cons_zero, List.set_cons_succ]
  clear s8
  refine wpSched_take (i := 13) (v := ?_) (by as_aux_lemma => rw [HO7.out]; simp only [List.getElem?_toArray, List.getElem?_cons_succ, List.getElem?_cons_zero]; rfl) (Or.inl ⟨(by rfl), ?_⟩) ?_
  rotate_left
  · as_aux_lemma => intro wx hSx; (try dsimp only at hSx); go_simp; try with_reducible rfl
  try simp only [Act.put, List.setIfInBounds_toArray, List.set_cons_zero, List.set_cons_succ]
  refine wpSched_take (i := 14) (v := ?_) (by as_aux_lemma => rw [HO7.out]; simp only [List.getElem?_toArray, List.getElem?_cons_succ, List.getElem?_cons_zero]; rfl) (Or.inl ⟨(by rfl), ?_⟩) ?_
  rotate_left
  · as_aux_lemma => intro wx hSx; (try dsimp only at hSx); go_simp; try with_reducible rfl
  try simp only [Act.put, List.setIfInBounds_toArray, List.set_cons_zero, List.set_cons_succ]
  clear V1 V3 V5 V8
  refine wpSched_call (i := 15) (by as_aux_lemma => rw [HO7.out]; simp only [List.getElem?_toArray, List.getElem?_cons_succ, List.getElem?_cons_zero]; rfl) (by as_aux_lemma => rw [HO7.out]; rfl) (fun K' hK => ?_)
  go_simp
  go_at_call 13
  refine (awake02_any _).mono ?_
  rintro e w10 ⟨rfl, hU10⟩
  have u10 : Up w9 w10 := hU10
  replace U := Up.trans U u10
  replace bx1 := Blk.up bx1 u10
  replace bx3 := Blk.up bx3 u10
  replace bx5 := Blk.up bx5 u10
  clear hU10 u10
  have s10 := (And.intro (tri bx1) (And.intro (tri bx3) (tri bx5)))
  go_wp2_with fail
  refine hK.out _ _ s10 (fun _ => ?_)
  clear hK K'
  try simp only [Act.put, List.setIfInBounds_toArray, List.set_cons_zero, List.set_cons_succ]
  clear s9
  refine wpSched_take (i := 16) (v := ?_) (by as_aux_lemma => rw [HO7.out]; simp only [List.getElem?_toArray, List.getElem?_cons_succ, List.getElem?_cons_zero]; rfl) (Or.inl ⟨(by rfl), ?_⟩) ?_
  rotate_left
  · as_aux_lemma => intro wx hSx; (try dsimp only at hSx); go_simp; try with_reducible rfl
  try simp only [Act.put, List.setIfInBounds_toArray, List.set_cons_zero, List.set_cons_succ]
  refine wpSched_take (i := 17) (v := ?_) (by as_aux_lemma => rw [HO7.out]; simp only [List.getElem?_toArray, List.getElem?_cons_succ, List.getElem?_cons_zero]; rfl) (Or.inl ⟨(by rfl), ?_⟩) ?_
  rotate_left
  · as_aux_lemma => intro wx hSx; (try dsimp only at hSx); go_simp; try with_reducible rfl
  try simp only [Act.put, List.setIfInBounds_toArray, List.set_cons_zero, List.set_cons_succ]
  refine wpSched_end (NoPanic.normal ?_)
  clear HO7 O7 s10
  obtain ⟨bx1a, bx1b, bx1c⟩ := tri bx1
  obtain ⟨bx3a, bx3b, bx3c⟩ := tri bx3
  obtain ⟨bx5a, bx5b, bx5c⟩ := tri bx5
  go_wp2_with fail
  go_ret
  exact ⟨rfl, U⟩
end Go.Proofs.Ytiiebgfjdkkdeaa
