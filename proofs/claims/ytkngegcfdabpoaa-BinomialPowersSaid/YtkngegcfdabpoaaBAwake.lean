/-
  BAwake: the sanity check of the statements of layer 2 returns true. Conditions: none.
-/
import Derived.Test.YtkngegcfdabpoaaBChoose
import Derived.Test.YtkngegcfdabpoaaPD
import Derived.Test.YtkngegcfdabpoaaPA
namespace Go.Proofs.Ytkngegcfdabpoaa
open Go.RowKit

theorem qs_chooseV (n k : Int) (h1 : -9223372036854775808 ≤ n) (h2 : n ≤ 9223372036854775807) : qs (chooseV n k) ≤ 400 := by
  unfold chooseV
  split
  · exact Nat.le_trans (qs_bc (max 0 n) (by omega) (by omega) k.toNat (by omega)) (by omega)
  · exact Nat.le_trans (qs_int 0 (by omega) (by omega)) (by omega)
theorem awake02_val : chooseV 5 2 = ((10 : Int) : Rat) ∧ chooseB 2 = true := by
  constructor
  · decide +kernel
  · decide +kernel

theorem awake02_eq1 {q1 q4 : Rat} (e1 : q1 = ((10 : Int) : Rat)) (e4 : q4 = ((10 : Int) : Rat))  : q1 = q4 := by
  grind

set_option maxRecDepth 100000 in
set_option maxHeartbeats 3200000 in
theorem awake02_any (w : World) : Calls Try.prog 13 #[] w fun e w' => e = .returned (.bool true) ∧ Up w w' := by
  have HV := Lib.hid awake02_val
  go_enter Try.func13, Try.ntmps13
  have U : Up w w := Up.refl w
  go_wp2_with fail
  have T1 := choose_q 5 2 (by omega) (by omega) (w := w)
  rw [HV.out.1, HV.out.2] at T1
  refine T1.mono ?_
  rintro e w1 ⟨v1, rfl, hQ1, hU1⟩
  clear T1
  obtain ⟨s1x, A1, n1, c1, B1, m1, d1, rfl⟩ := hQ1.shape
  obtain ⟨q1, hq1⟩ : ∃ q, q = ((10 : Int) : Rat) := ⟨_, rfl⟩
  rw [← hq1] at hQ1
  have S1 : Hid (qs q1 ≤ 3) := Lib.hid (by rw [hq1]; exact qs_int 10 (by omega) (by omega))
  have E1 := Lib.hid hq1
  have V1 := Lib.hid hQ1
  clear hq1 hQ1
  have u1 : Up w w1 := hU1
  replace U := Up.trans U u1
  clear hU1 u1
  go_wp2_with fail
  obtain ⟨w2, hw2⟩ : ∃ wx, wx = (w1.alloc (Obj.cells #[.bool s1x, .slice A1 n1 c1, .slice B1 m1 d1] 31)) := ⟨_, rfl⟩
  have hU2 : Up w1 w2 := by rw [hw2]; exact Below.alloc (Below.refl _ _) (Nat.le_refl _) _
  have bx1 : Blk w2 (w1.heap.size) 31 #[.bool s1x, .slice A1 n1 c1, .slice B1 m1 d1] := by rw [hw2]; exact Blk.new' _ _ _ (by simp)
  rw [← hw2]
  clear hw2
  have u2 : Up w1 w2 := hU2
  replace U := Up.trans U u2
  replace V1 := Lib.hid (V1.out.up u2)
  clear hU2 u2
  obtain ⟨g1, hg1⟩ : ∃ g, g = w1.heap.size := ⟨_, rfl⟩
  rw [← hg1] at bx1
  try rw [show w1.heap.size = g1 from hg1.symm]
  clear hg1
  obtain ⟨bx1a, bx1b, bx1c⟩ := tri bx1
  go_wp2_with fail
  clear bx1a bx1b bx1c
  have s3 := (tri bx1)
  refine wp_region_noPanic ?_
  refine wp_region_sched (S := (fun wx => (wx.cell? ⟨g1, 0, none⟩ = some (.bool s1x) ∧ wx.cell? ⟨g1, 1, none⟩ = some (.slice A1 n1 c1) ∧ wx.cell? ⟨g1, 2, none⟩ = some (.slice B1 m1 d1)))) [(0, false), (1, false), (2, false), (3, true), (4, true), (5, false), (6, false)] (by kernel_rfl) (by as_aux_lemma => kernel_rfl) (by as_aux_lemma => kernel_rfl) (by as_aux_lemma => kernel_rfl) (fun _ _ _ _ _ h => h) s3 ?_
  intro O3 HO3
  refine wpSched_take (i := 0) (v := ?_) (by as_aux_lemma => rw [HO3.out]; simp only [List.getElem?_toArray, List.getElem?_cons_zero]; rfl) (Or.inl ⟨(by rfl), ?_⟩) ?_
  rotate_left
  · as_aux_lemma => intro wx hSx; (try dsimp only at hSx); go_simp; try with_reducible rfl
  try simp only [Act.put, List.setIfInBounds_toArray, List.set_cons_zero, List.set_cons_succ]
  refine wpSched_take (i := 1) (v := ?_) (by as_aux_lemma => rw [HO3.out]; simp only [List.getElem?_toArray, List.getElem?_cons_succ, List.getElem?_cons_zero]; rfl) (Or.inl ⟨(by rfl), ?_⟩) ?_
  rotate_left
  · as_aux_lemma => intro wx hSx; (try dsimp only at hSx); go_simp; try with_reducible rfl
  try simp only [Act.put, List.setIfInBounds_toArray, List.set_cons_zero, List.set_cons_succ]
  refine wpSched_take (i := 2) (v := ?_) (by as_aux_lemma => rw [HO3.out]; simp only [List.getElem?_toArray, List.getElem?_cons_succ, List.getElem?_cons_zero]; rfl) (Or.inl ⟨(by as_aux_lemma => rw [HO3.out]; rfl), ?_⟩) ?_
  rotate_left
  · as_aux_lemma => intro wx hSx; (try dsimp only at hSx); go_simp; try with_reducible rfl
  try simp only [Act.put, List.setIfInBounds_toArray, List.set_cons_zero, List.set_cons_succ]
  refine wpSched_call (i := 3) (by as_aux_lemma => rw [HO3.out]; simp only [List.getElem?_toArray, List.getElem?_cons_succ, List.getElem?_cons_zero]; rfl) (by as_aux_lemma => rw [HO3.out]; rfl) (fun K' hK => ?_)
  go_simp
  go_at_call 26
  refine (rFromInt_q 10 (by omega) (by omega)).mono ?_
  rintro e w4 ⟨v4, rfl, hQ4, hU4⟩
  obtain ⟨s4x, A4, n4, c4, B4, m4, d4, rfl⟩ := hQ4.shape
  obtain ⟨q4, hq4⟩ : ∃ q, q = ((10 : Int) : Rat) := ⟨_, rfl⟩
  rw [← hq4] at hQ4
  have S4 : Hid (qs q4 ≤ 3) := Lib.hid (by (rw [hq4]; exact qs_int _ (by omega) (by omega)))
  have E4 := Lib.hid hq4
  clear hq4
  have V4 := Lib.hid hQ4
  clear hQ4
  have u4 : Up w2 w4 := Up.trans (Up.refl w2).drew hU4
  replace U := Up.trans U u4
  replace V1 := Lib.hid (V1.out.up u4)
  replace bx1 := Blk.up bx1 u4
  clear hU4 u4
  have s4 := (tri bx1)
  go_wp2_with fail
  refine hK.out _ _ s4 (fun _ => ?_)
  clear hK K'
  try simp only [Act.put, List.setIfInBounds_toArray, List.set_cons_zero, List.set_cons_succ]
  clear s3
  refine wpSched_call (i := 4) (by as_aux_lemma => rw [HO3.out]; simp only [List.getElem?_toArray, List.getElem?_cons_succ, List.getElem?_cons_zero]; rfl) (by as_aux_lemma => rw [HO3.out]; rfl) (fun K' hK => ?_)
  go_simp
  go_at_call 16
  have T5 := sameRat_q V1.out V4.out (by have := S1.out; omega) (by have := S4.out; omega)
  rw [decide_eq_true (awake02_eq1 E1.out E4.out )] at T5
  refine T5.mono ?_
  rintro e w5 ⟨rfl, hU5⟩
  clear T5
  have u5 : Up w4 w5 := hU5
  replace U := Up.trans U u5
  replace V1 := Lib.hid (V1.out.up u5)
  replace V4 := Lib.hid (V4.out.up u5)
  replace bx1 := Blk.up bx1 u5
  clear hU5 u5
  have s5 := (tri bx1)
  go_wp2_with fail
  refine hK.out _ _ s5 (fun _ => ?_)
  clear hK K'
  try simp only [Act.put, List.setIfInBounds_toArray, List.set_cons_zero, List.set_cons_succ]
  clear s4
  refine wpSched_take (i := 5) (v := ?_) (by as_aux_lemma => rw [HO3.out]; simp only [List.getElem?_toArray, List.getElem?_cons_succ, List.getElem?_cons_zero]; rfl) (Or.inl ⟨(by rfl), ?_⟩) ?_
  rotate_left
  · as_aux_lemma => intro wx hSx; (try dsimp only at hSx); go_simp; try with_reducible rfl
  try simp only [Act.put, List.setIfInBounds_toArray, List.set_cons_zero, List.set_cons_succ]
  refine wpSched_take (i := 6) (v := ?_) (by as_aux_lemma => rw [HO3.out]; simp only [List.getElem?_toArray, List.getElem?_cons_succ, List.getElem?_cons_zero]; rfl) (Or.inl ⟨(by rfl), ?_⟩) ?_
  rotate_left
  · as_aux_lemma => intro wx hSx; (try dsimp only at hSx); go_simp; try with_reducible rfl
  try simp only [Act.put, List.setIfInBounds_toArray, List.set_cons_zero, List.set_cons_succ]
  clear V1 V4
  refine wpSched_end (NoPanic.normal ?_)
  clear HO3 O3 s5
  obtain ⟨bx1a, bx1b, bx1c⟩ := tri bx1
  go_wp2_with fail
  go_ret
  exact ⟨rfl, U⟩
end Go.Proofs.Ytkngegcfdabpoaa
