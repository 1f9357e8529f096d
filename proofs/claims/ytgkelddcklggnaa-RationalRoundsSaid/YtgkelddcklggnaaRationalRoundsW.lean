/-
  RationalRounds: for every rational number, in whatever form, the law returns true. Conditions: none.
-/
import Derived.Test.YtgkelddcklggnaaPD
import Derived.Test.YtgkelddcklggnaaPA
import Derived.Test.YtgkelddcklggnaaPJ
namespace Go.Proofs.Ytgkelddcklggnaa
open Go.RowKit

theorem RationalRounds_eq1 {q3 q4 x : Rat} (e3 : q3 = (x.floor : Rat)) (e4 : q4 = (x.floor : Rat))  : q3 = q4 := by
  grind

theorem RationalRounds_eq2 {q6 q7 x : Rat} (e6 : q6 = (x.ceil : Rat)) (e7 : q7 = (x.ceil : Rat))  : q6 = q7 := by
  grind

set_option maxRecDepth 100000 in
set_option maxHeartbeats 6400000 in
theorem RationalRounds_walk (vx : Value) (sx : Bool) (xsx ysx : List Nat) (w : World) (Rx : RV w vx sx xsx ysx) :
    Calls Try.prog 5 #[vx] w fun e w' => e = .returned (.bool true) ∧ Up w w' := by
  obtain ⟨Ax, cx, Bx, dx, hvx, lx, mx⟩ := Rx.shape
  have Kx := fun (wx : World) => keepRat_any sx Ax Bx xsx.length ysx.length cx dx wx lx mx
  by_cases kx : xsx.length ≤ 8 ∧ ysx.length ≤ 8
  case neg =>
    rw [show (decide (xsx.length ≤ 8) && decide (ysx.length ≤ 8)) = false from by rw [← Bool.decide_and, decide_eq_false_iff_not]; exact kx] at Kx
    replace Kx := Lib.hid Kx
    subst hvx
    clear  Rx kx 
    go_enter Try.func5, Try.ntmps5
    go_wp2_with fail
    obtain ⟨w0, hw0⟩ : ∃ wx, wx = (w.alloc (Obj.cells #[.bool sx, .slice Ax xsx.length cx, .slice Bx ysx.length dx] 24)) := ⟨_, rfl⟩
    have U : Up w w0 := by rw [hw0]; exact Below.alloc (Below.refl _ _) (Nat.le_refl _) _
    have bxx : Blk w0 (w.heap.size) 24 #[.bool sx, .slice Ax xsx.length cx, .slice Bx ysx.length dx] := by rw [hw0]; exact Blk.new' _ _ _ (by simp)
    rw [← hw0]
    clear hw0
    obtain ⟨bxxa, bxxb, bxxc⟩ := tri bxx
    refine (Kx.out w0).mono ?_
    rintro e w1 ⟨rfl, hU1⟩
    have u1 : Up w0 w1 := hU1
    replace U := Up.trans U u1
    replace bxx := Blk.up bxx u1
    clear hU1 u1
    clear bxxa bxxb bxxc
    obtain ⟨bxxa, bxxb, bxxc⟩ := tri bxx
    go_wp2_with fail
    go_ret
    exact ⟨rfl, U⟩
  rw [show (decide (xsx.length ≤ 8) && decide (ysx.length ≤ 8)) = true from by rw [← Bool.decide_and, decide_eq_true_iff]; exact kx] at Kx
  have Ix := Lib.hid (Rx.iv kx.1 kx.2)
  obtain ⟨x, hx⟩ : ∃ q, q = fq sx (nv xsx) (nv ysx) := ⟨_, rfl⟩
  rw [← hx] at Ix
  have Sx : Hid (qs x ≤ 9) := Lib.hid Ix.out.qs
  replace Kx := Lib.hid Kx
  clear hx kx
  subst hvx
  clear Rx
  go_enter Try.func5, Try.ntmps5
  go_wp2_with fail
  obtain ⟨w0, hw0⟩ : ∃ wx, wx = (w.alloc (Obj.cells #[.bool sx, .slice Ax xsx.length cx, .slice Bx ysx.length dx] 24)) := ⟨_, rfl⟩
  have U : Up w w0 := by rw [hw0]; exact Below.alloc (Below.refl _ _) (Nat.le_refl _) _
  have bxx : Blk w0 (w.heap.size) 24 #[.bool sx, .slice Ax xsx.length cx, .slice Bx ysx.length dx] := by rw [hw0]; exact Blk.new' _ _ _ (by simp)
  rw [← hw0]
  clear hw0
  obtain ⟨bxxa, bxxb, bxxc⟩ := tri bxx
  have Vx := Lib.hid (Ix.out.up U)
  refine (Kx.out w0).mono ?_
  rintro e w1 ⟨rfl, hU1⟩
  have u1 : Up w0 w1 := hU1
  replace U := Up.trans U u1
  replace Vx := Lib.hid (Vx.out.up u1)
  replace bxx := Blk.up bxx u1
  clear hU1 u1
  clear bxxa bxxb bxxc
  obtain ⟨bxxa, bxxb, bxxc⟩ := tri bxx
  go_wp2_with fail
  clear bxxa bxxb bxxc
  have s2 := (tri bxx)
  refine wp_region_noPanic ?_
  refine wp_region_sched (S := (fun wx => (wx.cell? ⟨w.heap.size, 0, none⟩ = some (.bool sx) ∧ wx.cell? ⟨w.heap.size, 1, none⟩ = some (.slice Ax xsx.length cx) ∧ wx.cell? ⟨w.heap.size, 2, none⟩ = some (.slice Bx ysx.length dx)))) [(0, false), (2, false), (1, true), (3, true), (4, true), (5, false), (6, false), (8, false), (7, true), (9, true), (10, true), (11, false), (12, false), (13, true), (14, false), (15, false)] (by kernel_rfl) (by as_aux_lemma => kernel_rfl) (by as_aux_lemma => kernel_rfl) (by as_aux_lemma => kernel_rfl) (fun _ _ _ _ _ h => h) s2 ?_
  intro O2 HO2
  refine wpSched_take (i := 0) (v := ?_) (by as_aux_lemma => rw [HO2.out]; simp only [List.getElem?_toArray, List.getElem?_cons_zero]; rfl) (Or.inl ⟨(by rfl), ?_⟩) ?_
  rotate_left
  · as_aux_lemma => intro wx hSx; (try dsimp only at hSx); go_simp; try with_reducible rfl
  try simp only [Act.put, List.setIfInBounds_toArray, List.set_cons_zero, List.set_cons_succ]
  refine wpSched_take (i := 2) (v := ?_) (by as_aux_lemma => rw [HO2.out]; simp only [List.getElem?_toArray, List.getElem?_cons_succ, List.getElem?_cons_zero]; rfl) (Or.inl ⟨(by rfl), ?_⟩) ?_
  rotate_left
  · as_aux_lemma => intro wx hSx; (try dsimp only at hSx); go_simp; try with_reducible rfl
  try simp only [Act.put, List.setIfInBounds_toArray, List.set_cons_zero, List.set_cons_succ]
  refine wpSched_call (i := 1) (by as_aux_lemma => rw [HO2.out]; simp only [List.getElem?_toArray, List.getElem?_cons_succ, List.getElem?_cons_zero]; rfl) (by rfl) (fun K' hK => ?_)
  go_simp
  go_at_call 22
  refine (floor_q (Vx.out.up (Up.refl w1).drew) (by omega)).mono ?_
  rintro e w3 ⟨v3, rfl, hQ3, hU3⟩
  obtain ⟨s3x, A3, n3, c3, B3, m3, d3, rfl⟩ := hQ3.shape
  obtain ⟨q3, hq3⟩ : ∃ q, q = (x.floor : Rat) := ⟨_, rfl⟩
  rw [← hq3] at hQ3
  have S3 : Hid (qs q3 ≤ 10) := Lib.hid (by (rw [hq3]; have := qs_floor x; have := Sx.out; omega))
  have E3 := Lib.hid hq3
  clear hq3
  have V3 := Lib.hid hQ3
  clear hQ3
  have u3 : Up w1 w3 := Up.trans (Up.refl w1).drew hU3
  replace U := Up.trans U u3
  replace Vx := Lib.hid (Vx.out.up u3)
  replace bxx := Blk.up bxx u3
  clear hU3 u3
  have s3 := (tri bxx)
  go_wp2_with fail
  refine hK.out _ _ s3 (fun _ => ?_)
  clear hK K'
  try simp only [Act.put, List.setIfInBounds_toArray, List.set_cons_zero, List.set_cons_succ]
  clear s2
  refine wpSched_call (i := 3) (by as_aux_lemma => rw [HO2.out]; simp only [List.getElem?_toArray, List.getElem?_cons_succ, List.getElem?_cons_zero]; rfl) (by rfl) (fun K' hK => ?_)
  go_simp
  go_at_call 23
  refine (rFloor_q Vx.out (by omega)).mono ?_
  rintro e w4 ⟨v4, rfl, hQ4, hU4⟩
  obtain ⟨s4x, A4, n4, c4, B4, m4, d4, rfl⟩ := hQ4.shape
  obtain ⟨q4, hq4⟩ : ∃ q, q = (x.floor : Rat) := ⟨_, rfl⟩
  rw [← hq4] at hQ4
  have S4 : Hid (qs q4 ≤ 10) := Lib.hid (by (rw [hq4]; have := qs_floor x; have := Sx.out; omega))
  have E4 := Lib.hid hq4
  clear hq4
  have V4 := Lib.hid hQ4
  clear hQ4
  have u4 : Up w3 w4 := hU4
  replace U := Up.trans U u4
  replace Vx := Lib.hid (Vx.out.up u4)
  replace V3 := Lib.hid (V3.out.up u4)
  replace bxx := Blk.up bxx u4
  clear hU4 u4
  have s4 := (tri bxx)
  go_wp2_with fail
  refine hK.out _ _ s4 (fun _ => ?_)
  clear hK K'
  try simp only [Act.put, List.setIfInBounds_toArray, List.set_cons_zero, List.set_cons_succ]
  clear s3
  refine wpSched_call (i := 4) (by as_aux_lemma => rw [HO2.out]; simp only [List.getElem?_toArray, List.getElem?_cons_succ, List.getElem?_cons_zero]; rfl) (by rfl) (fun K' hK => ?_)
  go_simp
  go_at_call 13
  have T5 := sameRat_q V3.out V4.out (by have := S3.out; omega) (by have := S4.out; omega)
  rw [decide_eq_true (RationalRounds_eq1 E3.out E4.out )] at T5
  refine T5.mono ?_
  rintro e w5 ⟨rfl, hU5⟩
  clear T5
  have u5 : Up w4 w5 := hU5
  replace U := Up.trans U u5
  replace Vx := Lib.hid (Vx.out.up u5)
  replace V3 := Lib.hid (V3.out.up u5)
  replace V4 := Lib.hid (V4.out.up u5)
  replace bxx := Blk.up bxx u5
  clear hU5 u5
  have s5 := (tri bxx)
  go_wp2_with fail
  refine hK.out _ _ s5 (fun _ => ?_)
  clear hK K'
  try simp only [Act.put, List.setIfInBounds_toArray, List.set_cons_zero, List.set_cons_succ]
  clear s4
  refine wpSched_take (i := 5) (v := ?_) (by as_aux_lemma => rw [HO2.out]; simp only [List.getElem?_toArray, List.getElem?_cons_succ, List.getElem?_cons_zero]; rfl) (Or.inl ⟨(by rfl), ?_⟩) ?_
  rotate_left
  · as_aux_lemma => intro wx hSx; (try dsimp only at hSx); go_simp; try with_reducible rfl
  try simp only [Act.put, List.setIfInBounds_toArray, List.set_cons_zero, List.set_cons_succ]
  refine wpSched_take (i := 6) (v := ?_) (by as_aux_lemma => rw [HO2.out]; simp only [List.getElem?_toArray, List.getElem?_cons_succ, List.getElem?_cons_zero]; rfl) (Or.inl ⟨(by as_aux_lemma => rw [HO2.out]; rfl), ?_⟩) ?_
  rotate_left
  · as_aux_lemma => intro wx hSx; (try dsimp only at hSx); go_simp; try with_reducible rfl
  try simp only [Act.put, List.setIfInBounds_toArray, List.set_cons_zero, List.set_cons_succ]
  refine wpSched_take (i := 8) (v := ?_) (by as_aux_lemma => rw [HO2.out]; simp only [List.getElem?_toArray, List.getElem?_cons_succ, List.getElem?_cons_zero]; rfl) (Or.inl ⟨(by as_aux_lemma => rw [HO2.out]; rfl), ?_⟩) ?_
  rotate_left
  · as_aux_lemma => intro wx hSx; (try dsimp only at hSx); go_simp; try with_reducible rfl
  try simp only [Act.put, List.setIfInBounds_toArray, List.set_cons_zero, List.set_cons_succ]
  clear V3 V4
  refine wpSched_call (i := 7) (by as_aux_lemma => rw [HO2.out]; simp only [List.getElem?_toArray, List.getElem?_cons_succ, List.getElem?_cons_zero]; rfl) (by as_aux_lemma => rw [HO2.out]; rfl) (fun K' hK => ?_)
  go_simp
  go_at_call 24
  refine (ceil_q Vx.out (by omega)).mono ?_
  rintro e w6 ⟨v6, rfl, hQ6, hU6⟩
  obtain ⟨s6x, A6, n6, c6, B6, m6, d6, rfl⟩ := hQ6.shape
  obtain ⟨q6, hq6⟩ : ∃ q, q = (x.ceil : Rat) := ⟨_, rfl⟩
  rw [← hq6] at hQ6
  have S6 : Hid (qs q6 ≤ 10) := Lib.hid (by (rw [hq6]; have := qs_ceil x; have := Sx.out; omega))
  have E6 := Lib.hid hq6
  clear hq6
  have V6 := Lib.hid hQ6
  clear hQ6
  have u6 : Up w5 w6 := hU6
  replace U := Up.trans U u6
  replace Vx := Lib.hid (Vx.out.up u6)
  replace bxx := Blk.up bxx u6
  clear hU6 u6
  have s6 := (tri bxx)
  go_wp2_with fail
  refine hK.out _ _ s6 (fun _ => ?_)
  clear hK K'
  try simp only [Act.put, List.setIfInBounds_toArray, List.set_cons_zero, List.set_cons_succ]
  clear s5
  refine wpSched_call (i := 9) (by as_aux_lemma => rw [HO2.out]; simp only [List.getElem?_toArray, List.getElem?_cons_succ, List.getElem?_cons_zero]; rfl) (by as_aux_lemma => rw [HO2.out]; rfl) (fun K' hK => ?_)
  go_simp
  go_at_call 25
  refine (rCeil_q Vx.out (by omega)).mono ?_
  rintro e w7 ⟨v7, rfl, hQ7, hU7⟩
  obtain ⟨s7x, A7, n7, c7, B7, m7, d7, rfl⟩ := hQ7.shape
  obtain ⟨q7, hq7⟩ : ∃ q, q = (x.ceil : Rat) := ⟨_, rfl⟩
  rw [← hq7] at hQ7
  have S7 : Hid (qs q7 ≤ 10) := Lib.hid (by (rw [hq7]; have := qs_ceil x; have := Sx.out; omega))
  have E7 := Lib.hid hq7
  clear hq7
  have V7 := Lib.hid hQ7
  clear hQ7
  have u7 : Up w6 w7 := hU7
  replace U := Up.trans U u7
  replace Vx := Lib.hid (Vx.out.up u7)
  replace V6 := Lib.hid (V6.out.up u7)
  replace bxx := Blk.up bxx u7
  clear hU7 u7
  have s7 := (tri bxx)
  go_wp2_with fail
  refine hK.out _ _ s7 (fun _ => ?_)
  clear hK K'
  try simp only [Act.put, List.setIfInBounds_toArray, List.set_cons_zero, List.set_cons_succ]
  clear s6
  refine wpSched_call (i := 10) (by as_aux_lemma => rw [HO2.out]; simp only [List.getElem?_toArray, List.getElem?_cons_succ, List.getElem?_cons_zero]; rfl) (by as_aux_lemma => rw [HO2.out]; rfl) (fun K' hK => ?_)
  go_simp
  go_at_call 13
  have T8 := sameRat_q V6.out V7.out (by have := S6.out; omega) (by have := S7.out; omega)
  rw [decide_eq_true (RationalRounds_eq2 E6.out E7.out )] at T8
  refine T8.mono ?_
  rintro e w8 ⟨rfl, hU8⟩
  clear T8
  have u8 : Up w7 w8 := hU8
  replace U := Up.trans U u8
  replace Vx := Lib.hid (Vx.out.up u8)
  replace V6 := Lib.hid (V6.out.up u8)
  replace V7 := Lib.hid (V7.out.up u8)
  replace bxx := Blk.up bxx u8
  clear hU8 u8
  have s8 := (tri bxx)
  go_wp2_with fail
  refine hK.out _ _ s8 (fun _ => ?_)
  clear hK K'
  try simp only [Act.put, List.setIfInBounds_toArray, List.set_cons_zero, List.set_cons_succ]
  clear s7
  refine wpSched_take (i := 11) (v := ?_) (by as_aux_lemma => rw [HO2.out]; simp only [List.getElem?_toArray, List.getElem?_cons_succ, List.getElem?_cons_zero]; rfl) (Or.inl ⟨(by rfl), ?_⟩) ?_
  rotate_left
  · as_aux_lemma => intro wx hSx; (try dsimp only at hSx); go_simp; try with_reducible rfl
  try simp only [Act.put, List.setIfInBounds_toArray, List.set_cons_zero, List.set_cons_succ]
  refine wpSched_take (i := 12) (v := ?_) (by as_aux_lemma => rw [HO2.out]; simp only [List.getElem?_toArray, List.getElem?_cons_succ, List.getElem?_cons_zero]; rfl) (Or.inl ⟨(by rfl), ?_⟩) ?_
  rotate_left
  · as_aux_lemma => intro wx hSx; (try dsimp only at hSx); go_simp; try with_reducible rfl
  try simp only [Act.put, List.setIfInBounds_toArray, List.set_cons_zero, List.set_cons_succ]
  clear V6 V7
  refine wpSched_call (i := 13) (by as_aux_lemma => rw [HO2.out]; simp only [List.getElem?_toArray, List.getElem?_cons_succ, List.getElem?_cons_zero]; rfl) (by as_aux_lemma => rw [HO2.out]; rfl) (fun K' hK => ?_)
  go_simp
  go_at_call 17
  refine (awake01_any _).mono ?_
  rintro e w9 ⟨rfl, hU9⟩
  have u9 : Up w8 w9 := hU9
  replace U := Up.trans U u9
  replace Vx := Lib.hid (Vx.out.up u9)
  replace bxx := Blk.up bxx u9
  clear hU9 u9
  have s9 := (tri bxx)
  go_wp2_with fail
  refine hK.out _ _ s9 (fun _ => ?_)
  clear hK K'
  try simp only [Act.put, List.setIfInBounds_toArray, List.set_cons_zero, List.set_cons_succ]
  clear s8
  refine wpSched_take (i := 14) (v := ?_) (by as_aux_lemma => rw [HO2.out]; simp only [List.getElem?_toArray, List.getElem?_cons_succ, List.getElem?_cons_zero]; rfl) (Or.inl ⟨(by rfl), ?_⟩) ?_
  rotate_left
  · as_aux_lemma => intro wx hSx; (try dsimp only at hSx); go_simp; try with_reducible rfl
  try simp only [Act.put, List.setIfInBounds_toArray, List.set_cons_zero, List.set_cons_succ]
  refine wpSched_take (i := 15) (v := ?_) (by as_aux_lemma => rw [HO2.out]; simp only [List.getElem?_toArray, List.getElem?_cons_succ, List.getElem?_cons_zero]; rfl) (Or.inl ⟨(by rfl), ?_⟩) ?_
  rotate_left
  · as_aux_lemma => intro wx hSx; (try dsimp only at hSx); go_simp; try with_reducible rfl
  try simp only [Act.put, List.setIfInBounds_toArray, List.set_cons_zero, List.set_cons_succ]
  refine wpSched_end (NoPanic.normal ?_)
  clear HO2 O2 s9
  obtain ⟨bxxa, bxxb, bxxc⟩ := tri bxx
  go_wp2_with fail
  go_ret
  exact ⟨rfl, U⟩
end Go.Proofs.Ytgkelddcklggnaa
