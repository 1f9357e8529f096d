/-
  RationalAdds: for every two rational numbers, in whatever form, the law returns true. Conditions: none.
-/
import Derived.Test.YtgkelddcklggnaaPD
import Derived.Test.YtgkelddcklggnaaPA
import Derived.Test.YtgkelddcklggnaaPJ
namespace Go.Proofs.Ytgkelddcklggnaa
open Go.RowKit

theorem RationalAdds_eq1 {q4 q5 x : Rat} (e4 : q4 = -x) (e5 : q5 = -x)  : q4 = q5 := by
  grind

theorem RationalAdds_eq2 {q7 q8 x : Rat} (e7 : q7 = x.abs) (e8 : q8 = x.abs)  : q7 = q8 := by
  grind

theorem RationalAdds_eq3 {q10 q11 x y : Rat} (e10 : q10 = x + y) (e11 : q11 = x + y)  : q10 = q11 := by
  grind

theorem RationalAdds_eq4 {q13 q14 x y : Rat} (e13 : q13 = x - y) (e14 : q14 = x - y)  : q13 = q14 := by
  grind

set_option maxRecDepth 100000 in
set_option maxHeartbeats 6400000 in
theorem RationalAdds_walk (vx : Value) (sx : Bool) (xsx ysx : List Nat) (vy : Value) (sy : Bool) (xsy ysy : List Nat) (w : World) (Rx : RV w vx sx xsx ysx) (Ry : RV w vy sy xsy ysy) :
    Calls Try.prog 8 #[vx, vy] w fun e w' => e = .returned (.bool true) ∧ Up w w' := by
  obtain ⟨Ax, cx, Bx, dx, hvx, lx, mx⟩ := Rx.shape
  obtain ⟨Ay, cy, By, dy, hvy, ly, my⟩ := Ry.shape
  have Kx := fun (wx : World) => keepRat_any sx Ax Bx xsx.length ysx.length cx dx wx lx mx
  have Ky := fun (wx : World) => keepRat_any sy Ay By xsy.length ysy.length cy dy wx ly my
  by_cases kx : xsx.length ≤ 8 ∧ ysx.length ≤ 8
  case neg =>
    rw [show (decide (xsx.length ≤ 8) && decide (ysx.length ≤ 8)) = false from by rw [← Bool.decide_and, decide_eq_false_iff_not]; exact kx] at Kx
    replace Kx := Lib.hid Kx
    subst hvx hvy
    clear Ky Ry Rx kx 
    go_enter Try.func8, Try.ntmps8
    go_wp2_with fail
    obtain ⟨w0, hw0⟩ : ∃ wx, wx = ((w.alloc (Obj.cells #[.bool sx, .slice Ax xsx.length cx, .slice Bx ysx.length dx] 24)).alloc (Obj.cells #[.bool sy, .slice Ay xsy.length cy, .slice By ysy.length dy] 24)) := ⟨_, rfl⟩
    have U : Up w w0 := by rw [hw0]; exact Below.alloc (Below.alloc (Below.refl _ _) (Nat.le_refl _) _) (by simp) _
    have bxx : Blk w0 (w.heap.size) 24 #[.bool sx, .slice Ax xsx.length cx, .slice Bx ysx.length dx] := by rw [hw0]; exact Blk.alloc (Blk.new' _ _ _ (by simp)) _
    have bxy : Blk w0 (w.heap.size + 1) 24 #[.bool sy, .slice Ay xsy.length cy, .slice By ysy.length dy] := by rw [hw0]; exact Blk.new' _ _ _ (by simp)
    rw [← hw0]
    clear hw0
    obtain ⟨bxxa, bxxb, bxxc⟩ := tri bxx
    obtain ⟨bxya, bxyb, bxyc⟩ := tri bxy
    refine (Kx.out w0).mono ?_
    rintro e w1 ⟨rfl, hU1⟩
    have u1 : Up w0 w1 := hU1
    replace U := Up.trans U u1
    replace bxx := Blk.up bxx u1
    replace bxy := Blk.up bxy u1
    clear hU1 u1
    clear bxxa bxxb bxxc bxya bxyb bxyc
    obtain ⟨bxxa, bxxb, bxxc⟩ := tri bxx
    obtain ⟨bxya, bxyb, bxyc⟩ := tri bxy
    go_wp2_with fail
    go_ret
    exact ⟨rfl, U⟩
  rw [show (decide (xsx.length ≤ 8) && decide (ysx.length ≤ 8)) = true from by rw [← Bool.decide_and, decide_eq_true_iff]; exact kx] at Kx
  have Ix := Lib.hid (Rx.iv kx.1 kx.2)
  obtain ⟨x, hx⟩ : ∃ q, q = fq sx (nv xsx) (nv ysx) := ⟨_, rfl⟩
  rw [← hx] at Ix
  have Sx : Hid (qs x ≤ 9) := Lib.hid Ix.out.qs
  replace Kx := Lib.hid Kx
  clear hx kx
  by_cases ky : xsy.length ≤ 8 ∧ ysy.length ≤ 8
  case neg =>
    rw [show (decide (xsy.length ≤ 8) && decide (ysy.length ≤ 8)) = false from by rw [← Bool.decide_and, decide_eq_false_iff_not]; exact ky] at Ky
    replace Ky := Lib.hid Ky
    subst hvx hvy
    clear  Ry ky Rx
    go_enter Try.func8, Try.ntmps8
    go_wp2_with fail
    obtain ⟨w0, hw0⟩ : ∃ wx, wx = ((w.alloc (Obj.cells #[.bool sx, .slice Ax xsx.length cx, .slice Bx ysx.length dx] 24)).alloc (Obj.cells #[.bool sy, .slice Ay xsy.length cy, .slice By ysy.length dy] 24)) := ⟨_, rfl⟩
    have U : Up w w0 := by rw [hw0]; exact Below.alloc (Below.alloc (Below.refl _ _) (Nat.le_refl _) _) (by simp) _
    have bxx : Blk w0 (w.heap.size) 24 #[.bool sx, .slice Ax xsx.length cx, .slice Bx ysx.length dx] := by rw [hw0]; exact Blk.alloc (Blk.new' _ _ _ (by simp)) _
    have bxy : Blk w0 (w.heap.size + 1) 24 #[.bool sy, .slice Ay xsy.length cy, .slice By ysy.length dy] := by rw [hw0]; exact Blk.new' _ _ _ (by simp)
    rw [← hw0]
    clear hw0
    obtain ⟨bxxa, bxxb, bxxc⟩ := tri bxx
    obtain ⟨bxya, bxyb, bxyc⟩ := tri bxy
    refine (Kx.out w0).mono ?_
    rintro e w1 ⟨rfl, hU1⟩
    have u1 : Up w0 w1 := hU1
    replace U := Up.trans U u1
    replace bxx := Blk.up bxx u1
    replace bxy := Blk.up bxy u1
    clear hU1 u1
    clear bxxa bxxb bxxc bxya bxyb bxyc
    obtain ⟨bxxa, bxxb, bxxc⟩ := tri bxx
    obtain ⟨bxya, bxyb, bxyc⟩ := tri bxy
    go_wp2_with fail
    refine (Ky.out w1).mono ?_
    rintro e w2 ⟨rfl, hU2⟩
    have u2 : Up w1 w2 := hU2
    replace U := Up.trans U u2
    replace bxx := Blk.up bxx u2
    replace bxy := Blk.up bxy u2
    clear hU2 u2
    clear bxxa bxxb bxxc bxya bxyb bxyc
    obtain ⟨bxxa, bxxb, bxxc⟩ := tri bxx
    obtain ⟨bxya, bxyb, bxyc⟩ := tri bxy
    go_wp2_with fail
    go_ret
    exact ⟨rfl, U⟩
  rw [show (decide (xsy.length ≤ 8) && decide (ysy.length ≤ 8)) = true from by rw [← Bool.decide_and, decide_eq_true_iff]; exact ky] at Ky
  have Iy := Lib.hid (Ry.iv ky.1 ky.2)
  obtain ⟨y, hy⟩ : ∃ q, q = fq sy (nv xsy) (nv ysy) := ⟨_, rfl⟩
  rw [← hy] at Iy
  have Sy : Hid (qs y ≤ 9) := Lib.hid Iy.out.qs
  replace Ky := Lib.hid Ky
  clear hy ky
  subst hvx hvy
  clear Rx Ry
  go_enter Try.func8, Try.ntmps8
  go_wp2_with fail
  obtain ⟨w0, hw0⟩ : ∃ wx, wx = ((w.alloc (Obj.cells #[.bool sx, .slice Ax xsx.length cx, .slice Bx ysx.length dx] 24)).alloc (Obj.cells #[.bool sy, .slice Ay xsy.length cy, .slice By ysy.length dy] 24)) := ⟨_, rfl⟩
  have U : Up w w0 := by rw [hw0]; exact Below.alloc (Below.alloc (Below.refl _ _) (Nat.le_refl _) _) (by simp) _
  have bxx : Blk w0 (w.heap.size) 24 #[.bool sx, .slice Ax xsx.length cx, .slice Bx ysx.length dx] := by rw [hw0]; exact Blk.alloc (Blk.new' _ _ _ (by simp)) _
  have bxy : Blk w0 (w.heap.size + 1) 24 #[.bool sy, .slice Ay xsy.length cy, .slice By ysy.length dy] := by rw [hw0]; exact Blk.new' _ _ _ (by simp)
  rw [← hw0]
  clear hw0
  obtain ⟨bxxa, bxxb, bxxc⟩ := tri bxx
  obtain ⟨bxya, bxyb, bxyc⟩ := tri bxy
  have Vx := Lib.hid (Ix.out.up U)
  have Vy := Lib.hid (Iy.out.up U)
  refine (Kx.out w0).mono ?_
  rintro e w1 ⟨rfl, hU1⟩
  have u1 : Up w0 w1 := hU1
  replace U := Up.trans U u1
  replace Vx := Lib.hid (Vx.out.up u1)
  replace Vy := Lib.hid (Vy.out.up u1)
  replace bxx := Blk.up bxx u1
  replace bxy := Blk.up bxy u1
  clear hU1 u1
  clear bxxa bxxb bxxc bxya bxyb bxyc
  obtain ⟨bxxa, bxxb, bxxc⟩ := tri bxx
  obtain ⟨bxya, bxyb, bxyc⟩ := tri bxy
  go_wp2_with fail
  refine (Ky.out w1).mono ?_
  rintro e w2 ⟨rfl, hU2⟩
  have u2 : Up w1 w2 := hU2
  replace U := Up.trans U u2
  replace Vx := Lib.hid (Vx.out.up u2)
  replace Vy := Lib.hid (Vy.out.up u2)
  replace bxx := Blk.up bxx u2
  replace bxy := Blk.up bxy u2
  clear hU2 u2
  clear bxxa bxxb bxxc bxya bxyb bxyc
  obtain ⟨bxxa, bxxb, bxxc⟩ := tri bxx
  obtain ⟨bxya, bxyb, bxyc⟩ := tri bxy
  go_wp2_with fail
  clear bxxa bxxb bxxc bxya bxyb bxyc
  have s3 := (And.intro (tri bxx) (tri bxy))
  refine wp_region_noPanic ?_
  refine wp_region_sched (S := (fun wx => (wx.cell? ⟨w.heap.size, 0, none⟩ = some (.bool sx) ∧ wx.cell? ⟨w.heap.size, 1, none⟩ = some (.slice Ax xsx.length cx) ∧ wx.cell? ⟨w.heap.size, 2, none⟩ = some (.slice Bx ysx.length dx)) ∧ (wx.cell? ⟨w.heap.size + 1, 0, none⟩ = some (.bool sy) ∧ wx.cell? ⟨w.heap.size + 1, 1, none⟩ = some (.slice Ay xsy.length cy) ∧ wx.cell? ⟨w.heap.size + 1, 2, none⟩ = some (.slice By ysy.length dy)))) [(0, false), (2, false), (1, true), (3, true), (4, true), (5, false), (6, false), (8, false), (7, true), (9, true), (10, true), (11, false), (12, false), (13, false), (14, false), (16, false), (17, false), (15, true), (18, true), (19, true), (20, false), (21, false), (22, false), (23, false), (25, false), (26, false), (24, true), (27, true), (28, true), (29, false), (30, false), (31, true), (32, false), (33, false)] (by kernel_rfl) (by as_aux_lemma => kernel_rfl) (by as_aux_lemma => kernel_rfl) (by as_aux_lemma => kernel_rfl) (fun _ _ _ _ _ h => h) s3 ?_
  intro O3 HO3
  refine wpSched_take (i := 0) (v := ?_) (by as_aux_lemma => rw [HO3.out]; simp only [List.getElem?_toArray, List.getElem?_cons_zero]; rfl) (Or.inl ⟨(by rfl), ?_⟩) ?_
  rotate_left
  · as_aux_lemma => intro wx hSx; (try dsimp only at hSx); go_simp; try with_reducible rfl
  try simp only [Act.put, List.setIfInBounds_toArray, List.set_cons_zero, List.set_cons_succ]
  refine wpSched_take (i := 2) (v := ?_) (by as_aux_lemma => rw [HO3.out]; simp only [List.getElem?_toArray, List.getElem?_cons_succ, List.getElem?_cons_zero]; rfl) (Or.inl ⟨(by rfl), ?_⟩) ?_
  rotate_left
  · as_aux_lemma => intro wx hSx; (try dsimp only at hSx); go_simp; try with_reducible rfl
  try simp only [Act.put, List.setIfInBounds_toArray, List.set_cons_zero, List.set_cons_succ]
  refine wpSched_call (i := 1) (by as_aux_lemma => rw [HO3.out]; simp only [List.getElem?_toArray, List.getElem?_cons_succ, List.getElem?_cons_zero]; rfl) (by rfl) (fun K' hK => ?_)
  go_simp
  go_at_call 37
  refine (neg_q (Vx.out.up (Up.refl w2).drew) (by omega)).mono ?_
  rintro e w4 ⟨v4, rfl, hQ4, hU4⟩
  obtain ⟨s4x, A4, n4, c4, B4, m4, d4, rfl⟩ := hQ4.shape
  obtain ⟨q4, hq4⟩ : ∃ q, q = -x := ⟨_, rfl⟩
  rw [← hq4] at hQ4
  have S4 : Hid (qs q4 ≤ 9) := Lib.hid (by (rw [hq4]; have := qs_neg x; have := Sx.out; omega))
  have E4 := Lib.hid hq4
  clear hq4
  have V4 := Lib.hid hQ4
  clear hQ4
  have u4 : Up w2 w4 := Up.trans (Up.refl w2).drew hU4
  replace U := Up.trans U u4
  replace Vx := Lib.hid (Vx.out.up u4)
  replace Vy := Lib.hid (Vy.out.up u4)
  replace bxx := Blk.up bxx u4
  replace bxy := Blk.up bxy u4
  clear hU4 u4
  have s4 := (And.intro (tri bxx) (tri bxy))
  go_wp2_with fail
  refine hK.out _ _ s4 (fun _ => ?_)
  clear hK K'
  try simp only [Act.put, List.setIfInBounds_toArray, List.set_cons_zero, List.set_cons_succ]
  clear s3
  refine wpSched_call (i := 3) (by as_aux_lemma => rw [HO3.out]; simp only [List.getElem?_toArray, List.getElem?_cons_succ, List.getElem?_cons_zero]; rfl) (by rfl) (fun K' hK => ?_)
  go_simp
  go_at_call 38
  refine (rNeg_q Vx.out (by omega)).mono ?_
  rintro e w5 ⟨v5, rfl, hQ5, hU5⟩
  obtain ⟨s5x, A5, n5, c5, B5, m5, d5, rfl⟩ := hQ5.shape
  obtain ⟨q5, hq5⟩ : ∃ q, q = -x := ⟨_, rfl⟩
  rw [← hq5] at hQ5
  have S5 : Hid (qs q5 ≤ 9) := Lib.hid (by (rw [hq5]; have := qs_neg x; have := Sx.out; omega))
  have E5 := Lib.hid hq5
  clear hq5
  have V5 := Lib.hid hQ5
  clear hQ5
  have u5 : Up w4 w5 := hU5
  replace U := Up.trans U u5
  replace Vx := Lib.hid (Vx.out.up u5)
  replace Vy := Lib.hid (Vy.out.up u5)
  replace V4 := Lib.hid (V4.out.up u5)
  replace bxx := Blk.up bxx u5
  replace bxy := Blk.up bxy u5
  clear hU5 u5
  have s5 := (And.intro (tri bxx) (tri bxy))
  go_wp2_with fail
  refine hK.out _ _ s5 (fun _ => ?_)
  clear hK K'
  try simp only [Act.put, List.setIfInBounds_toArray, List.set_cons_zero, List.set_cons_succ]
  clear s4
  refine wpSched_call (i := 4) (by as_aux_lemma => rw [HO3.out]; simp only [List.getElem?_toArray, List.getElem?_cons_succ, List.getElem?_cons_zero]; rfl) (by rfl) (fun K' hK => ?_)
  go_simp
  go_at_call 13
  have T6 := sameRat_q V4.out V5.out (by have := S4.out; omega) (by have := S5.out; omega)
  rw [decide_eq_true (RationalAdds_eq1 E4.out E5.out )] at T6
  refine T6.mono ?_
  rintro e w6 ⟨rfl, hU6⟩
  clear T6
  have u6 : Up w5 w6 := hU6
  replace U := Up.trans U u6
  replace Vx := Lib.hid (Vx.out.up u6)
  replace Vy := Lib.hid (Vy.out.up u6)
  replace V4 := Lib.hid (V4.out.up u6)
  replace V5 := Lib.hid (V5.out.up u6)
  replace bxx := Blk.up bxx u6
  replace bxy := Blk.up bxy u6
  clear hU6 u6
  have s6 := (And.intro (tri bxx) (tri bxy))
  go_wp2_with fail
  refine hK.out _ _ s6 (fun _ => ?_)
  clear hK K'
  try simp only [Act.put, List.setIfInBounds_toArray, List.set_cons_zero, List.set_cons_succ]
  clear s5
  refine wpSched_take (i := 5) (v := ?_) (by as_aux_lemma => rw [HO3.out]; simp only [List.getElem?_toArray, List.getElem?_cons_succ, List.getElem?_cons_zero]; rfl) (Or.inl ⟨(by rfl), ?_⟩) ?_
  rotate_left
  · as_aux_lemma => intro wx hSx; (try dsimp only at hSx); go_simp; try with_reducible rfl
  try simp only [Act.put, List.setIfInBounds_toArray, List.set_cons_zero, List.set_cons_succ]
  refine wpSched_take (i := 6) (v := ?_) (by as_aux_lemma => rw [HO3.out]; simp only [List.getElem?_toArray, List.getElem?_cons_succ, List.getElem?_cons_zero]; rfl) (Or.inl ⟨(by as_aux_lemma => rw [HO3.out]; rfl), ?_⟩) ?_
  rotate_left
  · as_aux_lemma => intro wx hSx; (try dsimp only at hSx); go_simp; try with_reducible rfl
  try simp only [Act.put, List.setIfInBounds_toArray, List.set_cons_zero, List.set_cons_succ]
  refine wpSched_take (i := 8) (v := ?_) (by as_aux_lemma => rw [HO3.out]; simp only [List.getElem?_toArray, List.getElem?_cons_succ, List.getElem?_cons_zero]; rfl) (Or.inl ⟨(by as_aux_lemma => rw [HO3.out]; rfl), ?_⟩) ?_
  rotate_left
  · as_aux_lemma => intro wx hSx; (try dsimp only at hSx); go_simp; try with_reducible rfl
  try simp only [Act.put, List.setIfInBounds_toArray, List.set_cons_zero, List.set_cons_succ]
  clear V4 V5
  refine wpSched_call (i := 7) (by as_aux_lemma => rw [HO3.out]; simp only [List.getElem?_toArray, List.getElem?_cons_succ, List.getElem?_cons_zero]; rfl) (by as_aux_lemma => rw [HO3.out]; rfl) (fun K' hK => ?_)
  go_simp
  go_at_call 39
  refine (abs_q Vx.out (by omega)).mono ?_
  rintro e w7 ⟨v7, rfl, hQ7, hU7⟩
  obtain ⟨s7x, A7, n7, c7, B7, m7, d7, rfl⟩ := hQ7.shape
  obtain ⟨q7, hq7⟩ : ∃ q, q = x.abs := ⟨_, rfl⟩
  rw [← hq7] at hQ7
  have S7 : Hid (qs q7 ≤ 9) := Lib.hid (by (rw [hq7]; have := qs_abs x; have := Sx.out; omega))
  have E7 := Lib.hid hq7
  clear hq7
  have V7 := Lib.hid hQ7
  clear hQ7
  have u7 : Up w6 w7 := hU7
  replace U := Up.trans U u7
  replace Vx := Lib.hid (Vx.out.up u7)
  replace Vy := Lib.hid (Vy.out.up u7)
  replace bxx := Blk.up bxx u7
  replace bxy := Blk.up bxy u7
  clear hU7 u7
  have s7 := (And.intro (tri bxx) (tri bxy))
  go_wp2_with fail
  refine hK.out _ _ s7 (fun _ => ?_)
  clear hK K'
  try simp only [Act.put, List.setIfInBounds_toArray, List.set_cons_zero, List.set_cons_succ]
  clear s6
  refine wpSched_call (i := 9) (by as_aux_lemma => rw [HO3.out]; simp only [List.getElem?_toArray, List.getElem?_cons_succ, List.getElem?_cons_zero]; rfl) (by as_aux_lemma => rw [HO3.out]; rfl) (fun K' hK => ?_)
  go_simp
  go_at_call 40
  refine (rAbs_q Vx.out (by omega)).mono ?_
  rintro e w8 ⟨v8, rfl, hQ8, hU8⟩
  obtain ⟨s8x, A8, n8, c8, B8, m8, d8, rfl⟩ := hQ8.shape
  obtain ⟨q8, hq8⟩ : ∃ q, q = x.abs := ⟨_, rfl⟩
  rw [← hq8] at hQ8
  have S8 : Hid (qs q8 ≤ 9) := Lib.hid (by (rw [hq8]; have := qs_abs x; have := Sx.out; omega))
  have E8 := Lib.hid hq8
  clear hq8
  have V8 := Lib.hid hQ8
  clear hQ8
  have u8 : Up w7 w8 := hU8
  replace U := Up.trans U u8
  replace Vx := Lib.hid (Vx.out.up u8)
  replace Vy := Lib.hid (Vy.out.up u8)
  replace V7 := Lib.hid (V7.out.up u8)
  replace bxx := Blk.up bxx u8
  replace bxy := Blk.up bxy u8
  clear hU8 u8
  have s8 := (And.intro (tri bxx) (tri bxy))
  go_wp2_with fail
  refine hK.out _ _ s8 (fun _ => ?_)
  clear hK K'
  try simp only [Act.put, List.setIfInBounds_toArray, List.set_cons_zero, List.set_cons_succ]
  clear s7
  refine wpSched_call (i := 10) (by as_aux_lemma => rw [HO3.out]; simp only [List.getElem?_toArray, List.getElem?_cons_succ, List.getElem?_cons_zero]; rfl) (by as_aux_lemma => rw [HO3.out]; rfl) (fun K' hK => ?_)
  go_simp
  go_at_call 13
  have T9 := sameRat_q V7.out V8.out (by have := S7.out; omega) (by have := S8.out; omega)
  rw [decide_eq_true (RationalAdds_eq2 E7.out E8.out )] at T9
  refine T9.mono ?_
  rintro e w9 ⟨rfl, hU9⟩
  clear T9
  have u9 : Up w8 w9 := hU9
  replace U := Up.trans U u9
  replace Vx := Lib.hid (Vx.out.up u9)
  replace Vy := Lib.hid (Vy.out.up u9)
  replace V7 := Lib.hid (V7.out.up u9)
  replace V8 := Lib.hid (V8.out.up u9)
  replace bxx := Blk.up bxx u9
  replace bxy := Blk.up bxy u9
  clear hU9 u9
  have s9 := (And.intro (tri bxx) (tri bxy))
  go_wp2_with fail
  refine hK.out _ _ s9 (fun _ => ?_)
  clear hK K'
  try simp only [Act.put, List.setIfInBounds_toArray, List.set_cons_zero, List.set_cons_succ]
  clear s8
  refine wpSched_take (i := 11) (v := ?_) (by as_aux_lemma => rw [HO3.out]; simp only [List.getElem?_toArray, List.getElem?_cons_succ, List.getElem?_cons_zero]; rfl) (Or.inl ⟨(by rfl), ?_⟩) ?_
  rotate_left
  · as_aux_lemma => intro wx hSx; (try dsimp only at hSx); go_simp; try with_reducible rfl
  try simp only [Act.put, List.setIfInBounds_toArray, List.set_cons_zero, List.set_cons_succ]
  refine wpSched_take (i := 12) (v := ?_) (by as_aux_lemma => rw [HO3.out]; simp only [List.getElem?_toArray, List.getElem?_cons_succ, List.getElem?_cons_zero]; rfl) (Or.inl ⟨(by rfl), ?_⟩) ?_
  rotate_left
  · as_aux_lemma => intro wx hSx; (try dsimp only at hSx); go_simp; try with_reducible rfl
  try simp only [Act.put, List.setIfInBounds_toArray, List.set_cons_zero, List.set_cons_succ]
  refine wpSched_take (i := 13) (v := ?_) (by as_aux_lemma => rw [HO3.out]; simp only [List.getElem?_toArray, List.getElem?_cons_succ, List.getElem?_cons_zero]; rfl) (Or.inl ⟨(by as_aux_lemma => rw [HO3.out]; rfl), ?_⟩) ?_
  rotate_left
  · as_aux_lemma => intro wx hSx; (try dsimp only at hSx); go_simp; try with_reducible rfl
  try simp only [Act.put, List.setIfInBounds_toArray, List.set_cons_zero, List.set_cons_succ]
  refine wpSched_take (i := 14) (v := ?_) (by as_aux_lemma => rw [HO3.out]; simp only [List.getElem?_toArray, List.getElem?_cons_succ, List.getElem?_cons_zero]; rfl) (Or.inl ⟨(by as_aux_lemma => rw [HO3.out]; rfl), ?_⟩) ?_
  rotate_left
  · as_aux_lemma => intro wx hSx; (try dsimp only at hSx); go_simp; try with_reducible rfl
  try simp only [Act.put, List.setIfInBounds_toArray, List.set_cons_zero, List.set_cons_succ]
  refine wpSched_take (i := 16) (v := ?_) (by as_aux_lemma => rw [HO3.out]; simp only [List.getElem?_toArray, List.getElem?_cons_succ, List.getElem?_cons_zero]; rfl) (Or.inl ⟨(by as_aux_lemma => rw [HO3.out]; rfl), ?_⟩) ?_
  rotate_left
  · as_aux_lemma => intro wx hSx; (try dsimp only at hSx); go_simp; try with_reducible rfl
  try simp only [Act.put, List.setIfInBounds_toArray, List.set_cons_zero, List.set_cons_succ]
  refine wpSched_take (i := 17) (v := ?_) (by as_aux_lemma => rw [HO3.out]; simp only [List.getElem?_toArray, List.getElem?_cons_succ, List.getElem?_cons_zero]; rfl) (Or.inl ⟨(by as_aux_lemma => rw [HO3.out]; rfl), ?_⟩) ?_
  rotate_left
  · as_aux_lemma => intro wx hSx; (try dsimp only at hSx); go_simp; try with_reducible rfl
  try simp only [Act.put, List.setIfInBounds_toArray, List.set_cons_zero, List.set_cons_succ]
  clear V7 V8
  refine wpSched_call (i := 15) (by as_aux_lemma => rw [HO3.out]; simp only [List.getElem?_toArray, List.getElem?_cons_succ, List.getElem?_cons_zero]; rfl) (by as_aux_lemma => rw [HO3.out]; rfl) (fun K' hK => ?_)
  go_simp
  go_at_call 41
  refine (add_q Vx.out Vy.out (by omega)).mono ?_
  rintro e w10 ⟨v10, rfl, hQ10, hU10⟩
  obtain ⟨s10x, A10, n10, c10, B10, m10, d10, rfl⟩ := hQ10.shape
  obtain ⟨q10, hq10⟩ : ∃ q, q = x + y := ⟨_, rfl⟩
  rw [← hq10] at hQ10
  have S10 : Hid (qs q10 ≤ 19) := Lib.hid (by (rw [hq10]; have := qs_add x y; have := Sx.out; have := Sy.out; omega))
  have E10 := Lib.hid hq10
  clear hq10
  have V10 := Lib.hid hQ10
  clear hQ10
  have u10 : Up w9 w10 := hU10
  replace U := Up.trans U u10
  replace Vx := Lib.hid (Vx.out.up u10)
  replace Vy := Lib.hid (Vy.out.up u10)
  replace bxx := Blk.up bxx u10
  replace bxy := Blk.up bxy u10
  clear hU10 u10
  have s10 := (And.intro (tri bxx) (tri bxy))
  go_wp2_with fail
  refine hK.out _ _ s10 (fun _ => ?_)
  clear hK K'
  try simp only [Act.put, List.setIfInBounds_toArray, List.set_cons_zero, List.set_cons_succ]
  clear s9
  refine wpSched_call (i := 18) (by as_aux_lemma => rw [HO3.out]; simp only [List.getElem?_toArray, List.getElem?_cons_succ, List.getElem?_cons_zero]; rfl) (by as_aux_lemma => rw [HO3.out]; rfl) (fun K' hK => ?_)
  go_simp
  go_at_call 42
  refine (rAdd_q Vx.out Vy.out (by omega)).mono ?_
  rintro e w11 ⟨v11, rfl, hQ11, hU11⟩
  obtain ⟨s11x, A11, n11, c11, B11, m11, d11, rfl⟩ := hQ11.shape
  obtain ⟨q11, hq11⟩ : ∃ q, q = x + y := ⟨_, rfl⟩
  rw [← hq11] at hQ11
  have S11 : Hid (qs q11 ≤ 19) := Lib.hid (by (rw [hq11]; have := qs_add x y; have := Sx.out; have := Sy.out; omega))
  have E11 := Lib.hid hq11
  clear hq11
  have V11 := Lib.hid hQ11
  clear hQ11
  have u11 : Up w10 w11 := hU11
  replace U := Up.trans U u11
  replace Vx := Lib.hid (Vx.out.up u11)
  replace Vy := Lib.hid (Vy.out.up u11)
  replace V10 := Lib.hid (V10.out.up u11)
  replace bxx := Blk.up bxx u11
  replace bxy := Blk.up bxy u11
  clear hU11 u11
  have s11 := (And.intro (tri bxx) (tri bxy))
  go_wp2_with fail
  refine hK.out _ _ s11 (fun _ => ?_)
  clear hK K'
  try simp only [Act.put, List.setIfInBounds_toArray, List.set_cons_zero, List.set_cons_succ]
  clear s10
  refine wpSched_call (i := 19) (by as_aux_lemma => rw [HO3.out]; simp only [List.getElem?_toArray, List.getElem?_cons_succ, List.getElem?_cons_zero]; rfl) (by as_aux_lemma => rw [HO3.out]; rfl) (fun K' hK => ?_)
  go_simp
  go_at_call 13
  have T12 := sameRat_q V10.out V11.out (by have := S10.out; omega) (by have := S11.out; omega)
  rw [decide_eq_true (RationalAdds_eq3 E10.out E11.out )] at T12
  refine T12.mono ?_
  rintro e w12 ⟨rfl, hU12⟩
  clear T12
  have u12 : Up w11 w12 := hU12
  replace U := Up.trans U u12
  replace Vx := Lib.hid (Vx.out.up u12)
  replace Vy := Lib.hid (Vy.out.up u12)
  replace V10 := Lib.hid (V10.out.up u12)
  replace V11 := Lib.hid (V11.out.up u12)
  replace bxx := Blk.up bxx u12
  replace bxy := Blk.up bxy u12
  clear hU12 u12
  have s12 := (And.intro (tri bxx) (tri bxy))
  go_wp2_with fail
  refine hK.out _ _ s12 (fun _ => ?_)
  clear hK K'
  try simp only [Act.put, List.setIfInBounds_toArray, List.set_cons_zero, List.set_cons_succ]
  clear s11
  refine wpSched_take (i := 20) (v := ?_) (by as_aux_lemma => rw [HO3.out]; simp only [List.getElem?_toArray, List.getElem?_cons_succ, List.getElem?_cons_zero]; rfl) (Or.inl ⟨(by rfl), ?_⟩) ?_
  rotate_left
  · as_aux_lemma => intro wx hSx; (try dsimp only at hSx); go_simp; try with_reducible rfl
  try simp only [Act.put, List.setIfInBounds_toArray, List.set_cons_zero, List.set_cons_succ]
  refine wpSched_take (i := 21) (v := ?_) (by as_aux_lemma => rw [HO3.out]; simp only [List.getElem?_toArray, List.getElem?_cons_succ, List.getElem?_cons_zero]; rfl) (Or.inl ⟨(by rfl), ?_⟩) ?_
  rotate_left
  · as_aux_lemma => intro wx hSx; (try dsimp only at hSx); go_simp; try with_reducible rfl
  try simp only [Act.put, List.setIfInBounds_toArray, List.set_cons_zero, List.set_cons_succ]
  refine wpSched_take (i := 22) (v := ?_) (by as_aux_lemma => rw [HO3.out]; simp only [List.getElem?_toArray, List.getElem?_cons_succ, List.getElem?_cons_zero]; rfl) (Or.inl ⟨(by as_aux_lemma => rw [HO3.out]; rfl), ?_⟩) ?_
  rotate_left
  · as_aux_lemma => intro wx hSx; (try dsimp only at hSx); go_simp; try with_reducible rfl
  try simp only [Act.put, List.setIfInBounds_toArray, List.set_cons_zero, List.set_cons_succ]
  refine wpSched_take (i := 23) (v := ?_) (by as_aux_lemma => rw [HO3.out]; simp only [List.getElem?_toArray, List.getElem?_cons_succ, List.getElem?_cons_zero]; rfl) (Or.inl ⟨(by as_aux_lemma => rw [HO3.out]; rfl), ?_⟩) ?_
  rotate_left
  · as_aux_lemma => intro wx hSx; (try dsimp only at hSx); go_simp; try with_reducible rfl
  try simp only [Act.put, List.setIfInBounds_toArray, List.set_cons_zero, List.set_cons_succ]
  refine wpSched_take (i := 25) (v := ?_) (by as_aux_lemma => rw [HO3.out]; simp only [List.getElem?_toArray, List.getElem?_cons_succ, List.getElem?_cons_zero]; rfl) (Or.inl ⟨(by as_aux_lemma => rw [HO3.out]; rfl), ?_⟩) ?_
  rotate_left
  · as_aux_lemma => intro wx hSx; (try dsimp only at hSx); go_simp; try with_reducible rfl
  try simp only [Act.put, List.setIfInBounds_toArray, List.set_cons_zero, List.set_cons_succ]
  refine wpSched_take (i := 26) (v := ?_) (by as_aux_lemma => rw [HO3.out]; simp only [List.getElem?_toArray, List.getElem?_cons_succ, List.getElem?_cons_zero]; rfl) (Or.inl ⟨(by as_aux_lemma => rw [HO3.out]; rfl), ?_⟩) ?_
  rotate_left
  · as_aux_lemma => intro wx hSx; (try dsimp only at hSx); go_simp; try with_reducible rfl
  try simp only [Act.put, List.setIfInBounds_toArray, List.set_cons_zero, List.set_cons_succ]
  clear V10 V11
  refine wpSched_call (i := 24) (by as_aux_lemma => rw [HO3.out]; simp only [List.getElem?_toArray, List.getElem?_cons_succ, List.getElem?_cons_zero]; rfl) (by as_aux_lemma => rw [HO3.out]; rfl) (fun K' hK => ?_)
  go_simp
  go_at_call 43
  refine (sub_q Vx.out Vy.out (by omega)).mono ?_
  rintro e w13 ⟨v13, rfl, hQ13, hU13⟩
  obtain ⟨s13x, A13, n13, c13, B13, m13, d13, rfl⟩ := hQ13.shape
  obtain ⟨q13, hq13⟩ : ∃ q, q = x - y := ⟨_, rfl⟩
  rw [← hq13] at hQ13
  have S13 : Hid (qs q13 ≤ 19) := Lib.hid (by (rw [hq13]; have := qs_sub x y; have := Sx.out; have := Sy.out; omega))
  have E13 := Lib.hid hq13
  clear hq13
  have V13 := Lib.hid hQ13
  clear hQ13
  have u13 : Up w12 w13 := hU13
  replace U := Up.trans U u13
  replace Vx := Lib.hid (Vx.out.up u13)
  replace Vy := Lib.hid (Vy.out.up u13)
  replace bxx := Blk.up bxx u13
  replace bxy := Blk.up bxy u13
  clear hU13 u13
  have s13 := (And.intro (tri bxx) (tri bxy))
  go_wp2_with fail
  refine hK.out _ _ s13 (fun _ => ?_)
  clear hK K'
  try simp only [Act.put, List.setIfInBounds_toArray, List.set_cons_zero, List.set_cons_succ]
  clear s12
  refine wpSched_call (i := 27) (by as_aux_lemma => rw [HO3.out]; simp only [List.getElem?_toArray, List.getElem?_cons_succ, List.getElem?_cons_zero]; rfl) (by as_aux_lemma => rw [HO3.out]; rfl) (fun K' hK => ?_)
  go_simp
  go_at_call 44
  refine (rSub_q Vx.out Vy.out (by omega)).mono ?_
  rintro e w14 ⟨v14, rfl, hQ14, hU14⟩
  obtain ⟨s14x, A14, n14, c14, B14, m14, d14, rfl⟩ := hQ14.shape
  obtain ⟨q14, hq14⟩ : ∃ q, q = x - y := ⟨_, rfl⟩
  rw [← hq14] at hQ14
  have S14 : Hid (qs q14 ≤ 19) := Lib.hid (by (rw [hq14]; have := qs_sub x y; have := Sx.out; have := Sy.out; omega))
  have E14 := Lib.hid hq14
  clear hq14
  have V14 := Lib.hid hQ14
  clear hQ14
  have u14 : Up w13 w14 := hU14
  replace U := Up.trans U u14
  replace Vx := Lib.hid (Vx.out.up u14)
  replace Vy := Lib.hid (Vy.out.up u14)
  replace V13 := Lib.hid (V13.out.up u14)
  replace bxx := Blk.up bxx u14
  replace bxy := Blk.up bxy u14
  clear hU14 u14
  have s14 := (And.intro (tri bxx) (tri bxy))
  go_wp2_with fail
  refine hK.out _ _ s14 (fun _ => ?_)
  clear hK K'
  try simp only [Act.put, List.setIfInBounds_toArray, List.set_cons_zero, List.set_cons_succ]
  clear s13
  refine wpSched_call (i := 28) (by as_aux_lemma => rw [HO3.out]; simp only [List.getElem?_toArray, List.getElem?_cons_succ, List.getElem?_cons_zero]; rfl) (by as_aux_lemma => rw [HO3.out]; rfl) (fun K' hK => ?_)
  go_simp
  go_at_call 13
  have T15 := sameRat_q V13.out V14.out (by have := S13.out; omega) (by have := S14.out; omega)
  rw [decide_eq_true (RationalAdds_eq4 E13.out E14.out )] at T15
  refine T15.mono ?_
  rintro e w15 ⟨rfl, hU15⟩
  clear T15
  have u15 : Up w14 w15 := hU15
  replace U := Up.trans U u15
  replace Vx := Lib.hid (Vx.out.up u15)
  replace Vy := Lib.hid (Vy.out.up u15)
  replace V13 := Lib.hid (V13.out.up u15)
  replace V14 := Lib.hid (V14.out.up u15)
  replace bxx := Blk.up bxx u15
  replace bxy := Blk.up bxy u15
  clear hU15 u15
  have s15 := (And.intro (tri bxx) (tri bxy))
  go_wp2_with fail
  refine hK.out _ _ s15 (fun _ => ?_)
  clear hK K'
  try simp only [Act.put, List.setIfInBounds_toArray, List.set_cons_zero, List.set_cons_succ]
  clear s14
  refine wpSched_take (i := 29) (v := ?_) (by as_aux_lemma => rw [HO3.out]; simp only [List.getElem?_toArray, List.getElem?_cons_succ, List.getElem?_cons_zero]; rfl) (Or.inl ⟨(by rfl), ?_⟩) ?_
  rotate_left
  · as_aux_lemma => intro wx hSx; (try dsimp only at hSx); go_simp; try with_reducible rfl
  try simp only [Act.put, List.setIfInBounds_toArray, List.set_cons_zero, List.set_cons_succ]
  refine wpSched_take (i := 30) (v := ?_) (by as_aux_lemma => rw [HO3.out]; simp only [List.getElem?_toArray, List.getElem?_cons_succ, List.getElem?_cons_zero]; rfl) (Or.inl ⟨(by rfl), ?_⟩) ?_
  rotate_left
  · as_aux_lemma => intro wx hSx; (try dsimp only at hSx); go_simp; try with_reducible rfl
  try simp only [Act.put, List.setIfInBounds_toArray, List.set_cons_zero, List.set_cons_succ]
  clear V13 V14
  refine wpSched_call (i := 31) (by as_aux_lemma => rw [HO3.out]; simp only [List.getElem?_toArray, List.getElem?_cons_succ, List.getElem?_cons_zero]; rfl) (by as_aux_lemma => rw [HO3.out]; rfl) (fun K' hK => ?_)
  go_simp
  go_at_call 17
  refine (awake01_any _).mono ?_
  rintro e w16 ⟨rfl, hU16⟩
  have u16 : Up w15 w16 := hU16
  replace U := Up.trans U u16
  replace Vx := Lib.hid (Vx.out.up u16)
  replace Vy := Lib.hid (Vy.out.up u16)
  replace bxx := Blk.up bxx u16
  replace bxy := Blk.up bxy u16
  clear hU16 u16
  have s16 := (And.intro (tri bxx) (tri bxy))
  go_wp2_with fail
  refine hK.out _ _ s16 (fun _ => ?_)
  clear hK K'
  try simp only [Act.put, List.setIfInBounds_toArray, List.set_cons_zero, List.set_cons_succ]
  clear s15
  refine wpSched_take (i := 32) (v := ?_) (by as_aux_lemma => rw [HO3.out]; simp only [List.getElem?_toArray, List.getElem?_cons_succ, List.getElem?_cons_zero]; rfl) (Or.inl ⟨(by rfl), ?_⟩) ?_
  rotate_left
  · as_aux_lemma => intro wx hSx; (try dsimp only at hSx); go_simp; try with_reducible rfl
  try simp only [Act.put, List.setIfInBounds_toArray, List.set_cons_zero, List.set_cons_succ]
  refine wpSched_take (i := 33) (v := ?_) (by as_aux_lemma => rw [HO3.out]; simp only [List.getElem?_toArray, List.getElem?_cons_succ, List.getElem?_cons_zero]; rfl) (Or.inl ⟨(by rfl), ?_⟩) ?_
  rotate_left
  · as_aux_lemma => intro wx hSx; (try dsimp only at hSx); go_simp; try with_reducible rfl
  try simp only [Act.put, List.setIfInBounds_toArray, List.set_cons_zero, List.set_cons_succ]
  refine wpSched_end (NoPanic.normal ?_)
  clear HO3 O3 s16
  obtain ⟨bxxa, bxxb, bxxc⟩ := tri bxx
  obtain ⟨bxya, bxyb, bxyc⟩ := tri bxy
  go_wp2_with fail
  go_ret
  exact ⟨rfl, U⟩
end Go.Proofs.Ytgkelddcklggnaa
