/-
  RationalCompares: for every two rational numbers, in whatever form, the law returns true. Conditions: none.
-/
import Derived.Test.YtgkelddcklggnaaPD
import Derived.Test.YtgkelddcklggnaaPA
import Derived.Test.YtgkelddcklggnaaPJ
namespace Go.Proofs.Ytgkelddcklggnaa
open Go.RowKit

theorem RationalCompares_eq1 {q4 q5 x : Rat} (e4 : q4 = x) (e5 : q5 = x)  : q4 = q5 := by
  grind

set_option maxRecDepth 100000 in
set_option maxHeartbeats 6400000 in
theorem RationalCompares_walk (vx : Value) (sx : Bool) (xsx ysx : List Nat) (vy : Value) (sy : Bool) (xsy ysy : List Nat) (w : World) (Rx : RV w vx sx xsx ysx) (Ry : RV w vy sy xsy ysy) :
    Calls Try.prog 6 #[vx, vy] w fun e w' => e = .returned (.bool true) ∧ Up w w' := by
  obtain ⟨Ax, cx, Bx, dx, hvx, lx, mx⟩ := Rx.shape
  obtain ⟨Ay, cy, By, dy, hvy, ly, my⟩ := Ry.shape
  have Kx := fun (wx : World) => keepRat_any sx Ax Bx xsx.length ysx.length cx dx wx lx mx
  have Ky := fun (wx : World) => keepRat_any sy Ay By xsy.length ysy.length cy dy wx ly my
  by_cases kx : xsx.length ≤ 8 ∧ ysx.length ≤ 8
  case neg =>
    rw [show (decide (xsx.length ≤ 8) && decide (ysx.length ≤ 8)) = false from by rw [← Bool.decide_and, decide_eq_false_iff_not]; exact kx] at Kx
    replace Kx := Lib.hid Kx
    subst hvx hvy
    clear Ky Ry Rx kx 
    go_enter Try.func6, Try.ntmps6
    go_wp2_with fail
    obtain ⟨w0, hw0⟩ : ∃ wx, wx = ((w.alloc (Obj.cells #[.bool sx, .slice Ax xsx.length cx, .slice Bx ysx.length dx] 24)).alloc (Obj.cells #[.bool sy, .slice Ay xsy.length cy, .slice By ysy.length dy] 24)) := ⟨_, rfl⟩
    have U : Up w w0 := by rw [hw0]; exact Below.alloc (Below.alloc (Below.refl _ _) (Nat.le_refl _) _) (by simp) _
    have bxx : Blk w0 (w.heap.size) 24 #[.bool sx, .slice Ax xsx.length cx, .slice Bx ysx.length dx] := by rw [hw0]; exact Blk.alloc (Blk.new' _ _ _ (by simp)) _
    have bxy : Blk w0 (w.heap.size + 1) 24 #[.bool sy, .slice Ay xsy.length cy, .slice By ysy.length dy] := by rw [hw0]; exact Blk.new' _ _ _ (by simp)
    rw [← hw0]
    clear hw0
    obtain ⟨bxxa, bxxb, bxxc⟩ := tri bxx
    obtain ⟨bxya, bxyb, bxyc⟩ := tri bxy
    refine (Kx.out w0).mono ?_
    rintro e w1 ⟨rfl, hU1⟩
    have u1 : Up w0 w1 := hU1
    replace U := Up.trans U u1
    replace bxx := Blk.up bxx u1
    replace bxy := Blk.up bxy u1
    clear hU1 u1
    clear bxxa bxxb bxxc bxya bxyb bxyc
    obtain ⟨bxxa, bxxb, bxxc⟩ := tri bxx
    obtain ⟨bxya, bxyb, bxyc⟩ := tri bxy
    go_wp2_with fail
    go_ret
    exact ⟨rfl, U⟩
  rw [show (decide (xsx.length ≤ 8) && decide (ysx.length ≤ 8)) = true from by rw [← Bool.decide_and, decide_eq_true_iff]; exact kx] at Kx
  have Ix := Lib.hid (Rx.iv kx.1 kx.2)
  obtain ⟨x, hx⟩ : ∃ q, q = fq sx (nv xsx) (nv ysx) := ⟨_, rfl⟩
  rw [← hx] at Ix
  have Sx : Hid (qs x ≤ 9) := Lib.hid Ix.out.qs
  replace Kx := Lib.hid Kx
  clear hx kx
  by_cases ky : xsy.length ≤ 8 ∧ ysy.length ≤ 8
  case neg =>
    rw [show (decide (xsy.length ≤ 8) && decide (ysy.length ≤ 8)) = false from by rw [← Bool.decide_and, decide_eq_false_iff_not]; exact ky] at Ky
    replace Ky := Lib.hid Ky
    subst hvx hvy
    clear  Ry ky Rx
    go_enter Try.func6, Try.ntmps6
    go_wp2_with fail
    obtain ⟨w0, hw0⟩ : ∃ wx, wx = ((w.alloc (Obj.cells #[.bool sx, .slice Ax xsx.length cx, .slice Bx ysx.length dx] 24)).alloc (Obj.cells #[.bool sy, .slice Ay xsy.length cy, .slice By ysy.length dy] 24)) := ⟨_, rfl⟩
    have U : Up w w0 := by rw [hw0]; exact Below.alloc (Below.alloc (Below.refl _ _) (Nat.le_refl _) _) (by simp) _
    have bxx : Blk w0 (w.heap.size) 24 #[.bool sx, .slice Ax xsx.length cx, .slice Bx ysx.length dx] := by rw [hw0]; exact Blk.alloc (Blk.new' _ _ _ (by simp)) _
    have bxy : Blk w0 (w.heap.size + 1) 24 #[.bool sy, .slice Ay xsy.length cy, .slice By ysy.length dy] := by rw [hw0]; exact Blk.new' _ _ _ (by simp)
    rw [← hw0]
    clear hw0
    obtain ⟨bxxa, bxxb, bxxc⟩ := tri bxx
    obtain ⟨bxya, bxyb, bxyc⟩ := tri bxy
    refine (Kx.out w0).mono ?_
    rintro e w1 ⟨rfl, hU1⟩
    have u1 : Up w0 w1 := hU1
    replace U := Up.trans U u1
    replace bxx := Blk.up bxx u1
    replace bxy := Blk.up bxy u1
    clear hU1 u1
    clear bxxa bxxb bxxc bxya bxyb bxyc
    obtain ⟨bxxa, bxxb, bxxc⟩ := tri bxx
    obtain ⟨bxya, bxyb, bxyc⟩ := tri bxy
    go_wp2_with fail
    refine (Ky.out w1).mono ?_
    rintro e w2 ⟨rfl, hU2⟩
    have u2 : Up w1 w2 := hU2
    replace U := Up.trans U u2
    replace bxx := Blk.up bxx u2
    replace bxy := Blk.up bxy u2
    clear hU2 u2
    clear bxxa bxxb bxxc bxya bxyb bxyc
    obtain ⟨bxxa, bxxb, bxxc⟩ := tri bxx
    obtain ⟨bxya, bxyb, bxyc⟩ := tri bxy
    go_wp2_with fail
    go_ret
    exact ⟨rfl, U⟩
  rw [show (decide (xsy.length ≤ 8) && decide (ysy.length ≤ 8)) = true from by rw [← Bool.decide_and, decide_eq_true_iff]; exact ky] at Ky
  have Iy := Lib.hid (Ry.iv ky.1 ky.2)
  obtain ⟨y, hy⟩ : ∃ q, q = fq sy (nv xsy) (nv ysy) := ⟨_, rfl⟩
  rw [← hy] at Iy
  have Sy : Hid (qs y ≤ 9) := Lib.hid Iy.out.qs
  replace Ky := Lib.hid Ky
  clear hy ky
  subst hvx hvy
  clear Rx Ry
  go_enter Try.func6, Try.ntmps6
  go_wp2_with fail
  obtain ⟨w0, hw0⟩ : ∃ wx, wx = ((w.alloc (Obj.cells #[.bool sx, .slice Ax xsx.length cx, .slice Bx ysx.length dx] 24)).alloc (Obj.cells #[.bool sy, .slice Ay xsy.length cy, .slice By ysy.length dy] 24)) := ⟨_, rfl⟩
  have U : Up w w0 := by rw [hw0]; exact Below.alloc (Below.alloc (Below.refl _ _) (Nat.le_refl _) _) (by simp) _
  have bxx : Blk w0 (w.heap.size) 24 #[.bool sx, .slice Ax xsx.length cx, .slice Bx ysx.length dx] := by rw [hw0]; exact Blk.alloc (Blk.new' _ _ _ (by simp)) _
  have bxy : Blk w0 (w.heap.size + 1) 24 #[.bool sy, .slice Ay xsy.length cy, .slice By ysy.length dy] := by rw [hw0]; exact Blk.new' _ _ _ (by simp)
  rw [← hw0]
  clear hw0
  obtain ⟨bxxa, bxxb, bxxc⟩ := tri bxx
  obtain ⟨bxya, bxyb, bxyc⟩ := tri bxy
  have Vx := Lib.hid (Ix.out.up U)
  have Vy := Lib.hid (Iy.out.up U)
  refine (Kx.out w0).mono ?_
  rintro e w1 ⟨rfl, hU1⟩
  have u1 : Up w0 w1 := hU1
  replace U := Up.trans U u1
  replace Vx := Lib.hid (Vx.out.up u1)
  replace Vy := Lib.hid (Vy.out.up u1)
  replace bxx := Blk.up bxx u1
  replace bxy := Blk.up bxy u1
  clear hU1 u1
  clear bxxa bxxb bxxc bxya bxyb bxyc
  obtain ⟨bxxa, bxxb, bxxc⟩ := tri bxx
  obtain ⟨bxya, bxyb, bxyc⟩ := tri bxy
  go_wp2_with fail
  refine (Ky.out w1).mono ?_
  rintro e w2 ⟨rfl, hU2⟩
  have u2 : Up w1 w2 := hU2
  replace U := Up.trans U u2
  replace Vx := Lib.hid (Vx.out.up u2)
  replace Vy := Lib.hid (Vy.out.up u2)
  replace bxx := Blk.up bxx u2
  replace bxy := Blk.up bxy u2
  clear hU2 u2
  clear bxxa bxxb bxxc bxya bxyb bxyc
  obtain ⟨bxxa, bxxb, bxxc⟩ := tri bxx
  obtain ⟨bxya, bxyb, bxyc⟩ := tri bxy
  go_wp2_with fail
  clear bxxa bxxb bxxc bxya bxyb bxyc
  have s3 := (And.intro (tri bxx) (tri bxy))
  refine wp_region_noPanic ?_
  refine wp_region_sched (S := (fun wx => (wx.cell? ⟨w.heap.size, 0, none⟩ = some (.bool sx) ∧ wx.cell? ⟨w.heap.size, 1, none⟩ = some (.slice Ax xsx.length cx) ∧ wx.cell? ⟨w.heap.size, 2, none⟩ = some (.slice Bx ysx.length dx)) ∧ (wx.cell? ⟨w.heap.size + 1, 0, none⟩ = some (.bool sy) ∧ wx.cell? ⟨w.heap.size + 1, 1, none⟩ = some (.slice Ay xsy.length cy) ∧ wx.cell? ⟨w.heap.size + 1, 2, none⟩ = some (.slice By ysy.length dy)))) [(0, false), (2, false), (1, true), (3, true), (4, true), (5, false), (6, false), (8, false), (7, true), (9, true), (10, false), (11, false), (12, false), (13, false), (15, false), (14, true), (16, true), (17, false), (18, false), (19, false), (20, false), (21, false), (23, false), (24, false), (22, true), (25, true), (26, false), (27, false), (28, false), (29, true), (30, false), (31, false)] (by kernel_rfl) (by as_aux_lemma => kernel_rfl) (by as_aux_lemma => kernel_rfl) (by as_aux_lemma => kernel_rfl) (fun _ _ _ _ _ h => h) s3 ?_
  intro O3 HO3
  refine wpSched_take (i := 0) (v := ?_) (by as_aux_lemma => rw [HO3.out]; simp only [List.getElem?_toArray, List.getElem?_cons_zero]; rfl) (Or.inl ⟨(by rfl), ?_⟩) ?_
  rotate_left
  · as_aux_lemma => intro wx hSx; (try dsimp only at hSx); go_simp; try with_reducible rfl
  try simp only [Act.put, List.setIfInBounds_toArray, List.set_cons_zero, List.set_cons_succ]
  refine wpSched_take (i := 2) (v := ?_) (by as_aux_lemma => rw [HO3.out]; simp only [List.getElem?_toArray, List.getElem?_cons_succ, List.getElem?_cons_zero]; rfl) (Or.inl ⟨(by rfl), ?_⟩) ?_
  rotate_left
  · as_aux_lemma => intro wx hSx; (try dsimp only at hSx); go_simp; try with_reducible rfl
  try simp only [Act.put, List.setIfInBounds_toArray, List.set_cons_zero, List.set_cons_succ]
  refine wpSched_call (i := 1) (by as_aux_lemma => rw [HO3.out]; simp only [List.getElem?_toArray, List.getElem?_cons_succ, List.getElem?_cons_zero]; rfl) (by rfl) (fun K' hK => ?_)
  go_simp
  go_at_call 26
  refine (canonical_q (Vx.out.up (Up.refl w2).drew) (by omega)).mono ?_
  rintro e w4 ⟨v4, rfl, hQ4, hU4⟩
  obtain ⟨s4x, A4, n4, c4, B4, m4, d4, rfl⟩ := hQ4.shape
  obtain ⟨q4, hq4⟩ : ∃ q, q = x := ⟨_, rfl⟩
  rw [← hq4] at hQ4
  have S4 : Hid (qs q4 ≤ 9) := Lib.hid (by (rw [hq4]; have := trivial; have := Sx.out; omega))
  have E4 := Lib.hid hq4
  clear hq4
  have V4 := Lib.hid hQ4
  clear hQ4
  have u4 : Up w2 w4 := Up.trans (Up.refl w2).drew hU4
  replace U := Up.trans U u4
  replace Vx := Lib.hid (Vx.out.up u4)
  replace Vy := Lib.hid (Vy.out.up u4)
  replace bxx := Blk.up bxx u4
  replace bxy := Blk.up bxy u4
  clear hU4 u4
  have s4 := (And.intro (tri bxx) (tri bxy))
  go_wp2_with fail
  refine hK.out _ _ s4 (fun _ => ?_)
  clear hK K'
  try simp only [Act.put, List.setIfInBounds_toArray, List.set_cons_zero, List.set_cons_succ]
  clear s3
  refine wpSched_call (i := 3) (by as_aux_lemma => rw [HO3.out]; simp only [List.getElem?_toArray, List.getElem?_cons_succ, List.getElem?_cons_zero]; rfl) (by rfl) (fun K' hK => ?_)
  go_simp
  go_at_call 27
  refine (rCanonical_q Vx.out (by omega)).mono ?_
  rintro e w5 ⟨v5, rfl, hQ5, hU5⟩
  obtain ⟨s5x, A5, n5, c5, B5, m5, d5, rfl⟩ := hQ5.shape
  obtain ⟨q5, hq5⟩ : ∃ q, q = x := ⟨_, rfl⟩
  rw [← hq5] at hQ5
  have S5 : Hid (qs q5 ≤ 9) := Lib.hid (by (rw [hq5]; have := trivial; have := Sx.out; omega))
  have E5 := Lib.hid hq5
  clear hq5
  have V5 := Lib.hid hQ5
  clear hQ5
  have u5 : Up w4 w5 := hU5
  replace U := Up.trans U u5
  replace Vx := Lib.hid (Vx.out.up u5)
  replace Vy := Lib.hid (Vy.out.up u5)
  replace V4 := Lib.hid (V4.out.up u5)
  replace bxx := Blk.up bxx u5
  replace bxy := Blk.up bxy u5
  clear hU5 u5
  have s5 := (And.intro (tri bxx) (tri bxy))
  go_wp2_with fail
  refine hK.out _ _ s5 (fun _ => ?_)
  clear hK K'
  try simp only [Act.put, List.setIfInBounds_toArray, List.set_cons_zero, List.set_cons_succ]
  clear s4
  refine wpSched_call (i := 4) (by as_aux_lemma => rw [HO3.out]; simp only [List.getElem?_toArray, List.getElem?_cons_succ, List.getElem?_cons_zero]; rfl) (by rfl) (fun K' hK => ?_)
  go_simp
  go_at_call 13
  have T6 := sameRat_q V4.out V5.out (by have := S4.out; omega) (by have := S5.out; omega)
  rw [decide_eq_true (RationalCompares_eq1 E4.out E5.out )] at T6
  refine T6.mono ?_
  rintro e w6 ⟨rfl, hU6⟩
  clear T6
  have u6 : Up w5 w6 := hU6
  replace U := Up.trans U u6
  replace Vx := Lib.hid (Vx.out.up u6)
  replace Vy := Lib.hid (Vy.out.up u6)
  replace V4 := Lib.hid (V4.out.up u6)
  replace V5 := Lib.hid (V5.out.up u6)
  replace bxx := Blk.up bxx u6
  replace bxy := Blk.up bxy u6
  clear hU6 u6
  have s6 := (And.intro (tri bxx) (tri bxy))
  go_wp2_with fail
  refine hK.out _ _ s6 (fun _ => ?_)
  clear hK K'
  try simp only [Act.put, List.setIfInBounds_toArray, List.set_cons_zero, List.set_cons_succ]
  clear s5
  refine wpSched_take (i := 5) (v := ?_) (by as_aux_lemma => rw [HO3.out]; simp only [List.getElem?_toArray, List.getElem?_cons_succ, List.getElem?_cons_zero]; rfl) (Or.inl ⟨(by rfl), ?_⟩) ?_
  rotate_left
  · as_aux_lemma => intro wx hSx; (try dsimp only at hSx); go_simp; try with_reducible rfl
  try simp only [Act.put, List.setIfInBounds_toArray, List.set_cons_zero, List.set_cons_succ]
  refine wpSched_take (i := 6) (v := ?_) (by as_aux_lemma => rw [HO3.out]; simp only [List.getElem?_toArray, List.getElem?_cons_succ, List.getElem?_cons_zero]; rfl) (Or.inl ⟨(by as_aux_lemma => rw [HO3.out]; rfl), ?_⟩) ?_
  rotate_left
  · as_aux_lemma => intro wx hSx; (try dsimp only at hSx); go_simp; try with_reducible rfl
  try simp only [Act.put, List.setIfInBounds_toArray, List.set_cons_zero, List.set_cons_succ]
  refine wpSched_take (i := 8) (v := ?_) (by as_aux_lemma => rw [HO3.out]; simp only [List.getElem?_toArray, List.getElem?_cons_succ, List.getElem?_cons_zero]; rfl) (Or.inl ⟨(by as_aux_lemma => rw [HO3.out]; rfl), ?_⟩) ?_
  rotate_left
  · as_aux_lemma => intro wx hSx; (try dsimp only at hSx); go_simp; try with_reducible rfl
  try simp only [Act.put, List.setIfInBounds_toArray, List.set_cons_zero, List.set_cons_succ]
  clear V4 V5
  refine wpSched_call (i := 7) (by as_aux_lemma => rw [HO3.out]; simp only [List.getElem?_toArray, List.getElem?_cons_succ, List.getElem?_cons_zero]; rfl) (by as_aux_lemma => rw [HO3.out]; rfl) (fun K' hK => ?_)
  go_simp
  go_at_call 28
  have T7 := integral_q Vx.out (by omega)
  refine T7.mono ?_
  rintro e w7 ⟨rfl, hU7⟩
  clear T7
  have u7 : Up w6 w7 := hU7
  replace U := Up.trans U u7
  replace Vx := Lib.hid (Vx.out.up u7)
  replace Vy := Lib.hid (Vy.out.up u7)
  replace bxx := Blk.up bxx u7
  replace bxy := Blk.up bxy u7
  clear hU7 u7
  have s7 := (And.intro (tri bxx) (tri bxy))
  go_wp2_with fail
  refine hK.out _ _ s7 (fun _ => ?_)
  clear hK K'
  try simp only [Act.put, List.setIfInBounds_toArray, List.set_cons_zero, List.set_cons_succ]
  clear s6
  refine wpSched_call (i := 9) (by as_aux_lemma => rw [HO3.out]; simp only [List.getElem?_toArray, List.getElem?_cons_succ, List.getElem?_cons_zero]; rfl) (by as_aux_lemma => rw [HO3.out]; rfl) (fun K' hK => ?_)
  go_simp
  go_at_call 29
  have T8 := rIntegral_q Vx.out (by omega)
  refine T8.mono ?_
  rintro e w8 ⟨rfl, hU8⟩
  clear T8
  have u8 : Up w7 w8 := hU8
  replace U := Up.trans U u8
  replace Vx := Lib.hid (Vx.out.up u8)
  replace Vy := Lib.hid (Vy.out.up u8)
  replace bxx := Blk.up bxx u8
  replace bxy := Blk.up bxy u8
  clear hU8 u8
  have s8 := (And.intro (tri bxx) (tri bxy))
  go_wp2_with fail
  refine hK.out _ _ s8 (fun _ => ?_)
  clear hK K'
  try simp only [Act.put, List.setIfInBounds_toArray, List.set_cons_zero, List.set_cons_succ]
  clear s7
  refine wpSched_take (i := 10) (v := ?_) (by as_aux_lemma => rw [HO3.out]; simp only [List.getElem?_toArray, List.getElem?_cons_succ, List.getElem?_cons_zero]; rfl) (Or.inl ⟨(by as_aux_lemma => rw [HO3.out]; rfl), ?_⟩) ?_
  rotate_left
  · as_aux_lemma => intro wx hSx; (try dsimp only at hSx); go_simp; try with_reducible rfl
  try simp only [Act.put, List.setIfInBounds_toArray, List.set_cons_zero, List.set_cons_succ]
  refine wpSched_take (i := 11) (v := ?_) (by as_aux_lemma => rw [HO3.out]; simp only [List.getElem?_toArray, List.getElem?_cons_succ, List.getElem?_cons_zero]; rfl) (Or.inl ⟨(by rfl), ?_⟩) ?_
  rotate_left
  · as_aux_lemma => intro wx hSx; (try dsimp only at hSx); go_simp; try with_reducible rfl
  try simp only [Act.put, List.setIfInBounds_toArray, List.set_cons_zero, List.set_cons_succ]
  refine wpSched_take (i := 12) (v := ?_) (by as_aux_lemma => rw [HO3.out]; simp only [List.getElem?_toArray, List.getElem?_cons_succ, List.getElem?_cons_zero]; rfl) (Or.inl ⟨(by rfl), ?_⟩) ?_
  rotate_left
  · as_aux_lemma => intro wx hSx; (try dsimp only at hSx); go_simp; try with_reducible rfl
  try simp only [Act.put, List.setIfInBounds_toArray, List.set_cons_zero, List.set_cons_succ]
  refine wpSched_take (i := 13) (v := ?_) (by as_aux_lemma => rw [HO3.out]; simp only [List.getElem?_toArray, List.getElem?_cons_succ, List.getElem?_cons_zero]; rfl) (Or.inl ⟨(by as_aux_lemma => rw [HO3.out]; rfl), ?_⟩) ?_
  rotate_left
  · as_aux_lemma => intro wx hSx; (try dsimp only at hSx); go_simp; try with_reducible rfl
  try simp only [Act.put, List.setIfInBounds_toArray, List.set_cons_zero, List.set_cons_succ]
  refine wpSched_take (i := 15) (v := ?_) (by as_aux_lemma => rw [HO3.out]; simp only [List.getElem?_toArray, List.getElem?_cons_succ, List.getElem?_cons_zero]; rfl) (Or.inl ⟨(by as_aux_lemma => rw [HO3.out]; rfl), ?_⟩) ?_
  rotate_left
  · as_aux_lemma => intro wx hSx; (try dsimp only at hSx); go_simp; try with_reducible rfl
  try simp only [Act.put, List.setIfInBounds_toArray, List.set_cons_zero, List.set_cons_succ]
  refine wpSched_call (i := 14) (by as_aux_lemma => rw [HO3.out]; simp only [List.getElem?_toArray, List.getElem?_cons_succ, List.getElem?_cons_zero]; rfl) (by as_aux_lemma => rw [HO3.out]; rfl) (fun K' hK => ?_)
  go_simp
  go_at_call 30
  have T9 := sign_q Vx.out (by omega)
  refine T9.mono ?_
  rintro e w9 ⟨rfl, hU9⟩
  clear T9
  have u9 : Up w8 w9 := hU9
  replace U := Up.trans U u9
  replace Vx := Lib.hid (Vx.out.up u9)
  replace Vy := Lib.hid (Vy.out.up u9)
  replace bxx := Blk.up bxx u9
  replace bxy := Blk.up bxy u9
  clear hU9 u9
  have s9 := (And.intro (tri bxx) (tri bxy))
  go_wp2_with fail
  refine hK.out _ _ s9 (fun _ => ?_)
  clear hK K'
  try simp only [Act.put, List.setIfInBounds_toArray, List.set_cons_zero, List.set_cons_succ]
  clear s8
  refine wpSched_call (i := 16) (by as_aux_lemma => rw [HO3.out]; simp only [List.getElem?_toArray, List.getElem?_cons_succ, List.getElem?_cons_zero]; rfl) (by as_aux_lemma => rw [HO3.out]; rfl) (fun K' hK => ?_)
  go_simp
  go_at_call 31
  have T10 := rSign_q Vx.out (by omega)
  refine T10.mono ?_
  rintro e w10 ⟨rfl, hU10⟩
  clear T10
  have u10 : Up w9 w10 := hU10
  replace U := Up.trans U u10
  replace Vx := Lib.hid (Vx.out.up u10)
  replace Vy := Lib.hid (Vy.out.up u10)
  replace bxx := Blk.up bxx u10
  replace bxy := Blk.up bxy u10
  clear hU10 u10
  have s10 := (And.intro (tri bxx) (tri bxy))
  go_wp2_with fail
  refine hK.out _ _ s10 (fun _ => ?_)
  clear hK K'
  try simp only [Act.put, List.setIfInBounds_toArray, List.set_cons_zero, List.set_cons_succ]
  clear s9
  refine wpSched_take (i := 17) (v := ?_) (by as_aux_lemma => rw [HO3.out]; simp only [List.getElem?_toArray, List.getElem?_cons_succ, List.getElem?_cons_zero]; rfl) (Or.inl ⟨(by as_aux_lemma => rw [HO3.out]; rfl), ?_⟩) ?_
  rotate_left
  · as_aux_lemma => intro wx hSx; (try dsimp only at hSx); go_simp; try with_reducible rfl
  try simp only [Act.put, List.setIfInBounds_toArray, List.set_cons_zero, List.set_cons_succ]
  refine wpSched_take (i := 18) (v := ?_) (by as_aux_lemma => rw [HO3.out]; simp only [List.getElem?_toArray, List.getElem?_cons_succ, List.getElem?_cons_zero]; rfl) (Or.inl ⟨(by rfl), ?_⟩) ?_
  rotate_left
  · as_aux_lemma => intro wx hSx; (try dsimp only at hSx); go_simp; try with_reducible rfl
  try simp only [Act.put, List.setIfInBounds_toArray, List.set_cons_zero, List.set_cons_succ]
  refine wpSched_take (i := 19) (v := ?_) (by as_aux_lemma => rw [HO3.out]; simp only [List.getElem?_toArray, List.getElem?_cons_succ, List.getElem?_cons_zero]; rfl) (Or.inl ⟨(by rfl), ?_⟩) ?_
  rotate_left
  · as_aux_lemma => intro wx hSx; (try dsimp only at hSx); go_simp; try with_reducible rfl
  try simp only [Act.put, List.setIfInBounds_toArray, List.set_cons_zero, List.set_cons_succ]
  refine wpSched_take (i := 20) (v := ?_) (by as_aux_lemma => rw [HO3.out]; simp only [List.getElem?_toArray, List.getElem?_cons_succ, List.getElem?_cons_zero]; rfl) (Or.inl ⟨(by as_aux_lemma => rw [HO3.out]; rfl), ?_⟩) ?_
  rotate_left
  · as_aux_lemma => intro wx hSx; (try dsimp only at hSx); go_simp; try with_reducible rfl
  try simp only [Act.put, List.setIfInBounds_toArray, List.set_cons_zero, List.set_cons_succ]
  refine wpSched_take (i := 21) (v := ?_) (by as_aux_lemma => rw [HO3.out]; simp only [List.getElem?_toArray, List.getElem?_cons_succ, List.getElem?_cons_zero]; rfl) (Or.inl ⟨(by as_aux_lemma => rw [HO3.out]; rfl), ?_⟩) ?_
  rotate_left
  · as_aux_lemma => intro wx hSx; (try dsimp only at hSx); go_simp; try with_reducible rfl
  try simp only [Act.put, List.setIfInBounds_toArray, List.set_cons_zero, List.set_cons_succ]
  refine wpSched_take (i := 23) (v := ?_) (by as_aux_lemma => rw [HO3.out]; simp only [List.getElem?_toArray, List.getElem?_cons_succ, List.getElem?_cons_zero]; rfl) (Or.inl ⟨(by as_aux_lemma => rw [HO3.out]; rfl), ?_⟩) ?_
  rotate_left
  · as_aux_lemma => intro wx hSx; (try dsimp only at hSx); go_simp; try with_reducible rfl
  try simp only [Act.put, List.setIfInBounds_toArray, List.set_cons_zero, List.set_cons_succ]
  refine wpSched_take (i := 24) (v := ?_) (by as_aux_lemma => rw [HO3.out]; simp only [List.getElem?_toArray, List.getElem?_cons_succ, List.getElem?_cons_zero]; rfl) (Or.inl ⟨(by as_aux_lemma => rw [HO3.out]; rfl), ?_⟩) ?_
  rotate_left
  · as_aux_lemma => intro wx hSx; (try dsimp only at hSx); go_simp; try with_reducible rfl
  try simp only [Act.put, List.setIfInBounds_toArray, List.set_cons_zero, List.set_cons_succ]
  refine wpSched_call (i := 22) (by as_aux_lemma => rw [HO3.out]; simp only [List.getElem?_toArray, List.getElem?_cons_succ, List.getElem?_cons_zero]; rfl) (by as_aux_lemma => rw [HO3.out]; rfl) (fun K' hK => ?_)
  go_simp
  go_at_call 32
  have T11 := cmp_q Vx.out Vy.out (by omega)
  refine T11.mono ?_
  rintro e w11 ⟨rfl, hU11⟩
  clear T11
  have u11 : Up w10 w11 := hU11
  replace U := Up.trans U u11
  replace Vx := Lib.hid (Vx.out.up u11)
  replace Vy := Lib.hid (Vy.out.up u11)
  replace bxx := Blk.up bxx u11
  replace bxy := Blk.up bxy u11
  clear hU11 u11
  have s11 := (And.intro (tri bxx) (tri bxy))
  go_wp2_with fail
  refine hK.out _ _ s11 (fun _ => ?_)
  clear hK K'
  try simp only [Act.put, List.setIfInBounds_toArray, List.set_cons_zero, List.set_cons_succ]
  clear s10
  refine wpSched_call (i := 25) (by as_aux_lemma => rw [HO3.out]; simp only [List.getElem?_toArray, List.getElem?_cons_succ, List.getElem?_cons_zero]; rfl) (by as_aux_lemma => rw [HO3.out]; rfl) (fun K' hK => ?_)
  go_simp
  go_at_call 33
  have T12 := rCmp_q Vx.out Vy.out (by omega)
  refine T12.mono ?_
  rintro e w12 ⟨rfl, hU12⟩
  clear T12
  have u12 : Up w11 w12 := hU12
  replace U := Up.trans U u12
  replace Vx := Lib.hid (Vx.out.up u12)
  replace Vy := Lib.hid (Vy.out.up u12)
  replace bxx := Blk.up bxx u12
  replace bxy := Blk.up bxy u12
  clear hU12 u12
  have s12 := (And.intro (tri bxx) (tri bxy))
  go_wp2_with fail
  refine hK.out _ _ s12 (fun _ => ?_)
  clear hK K'
  try simp only [Act.put, List.setIfInBounds_toArray, List.set_cons_zero, List.set_cons_succ]
  clear s11
  refine wpSched_take (i := 26) (v := ?_) (by as_aux_lemma => rw [HO3.out]; simp only [List.getElem?_toArray, List.getElem?_cons_succ, List.getElem?_cons_zero]; rfl) (Or.inl ⟨(by as_aux_lemma => rw [HO3.out]; rfl), ?_⟩) ?_
  rotate_left
  · as_aux_lemma => intro wx hSx; (try dsimp only at hSx); go_simp; try with_reducible rfl
  try simp only [Act.put, List.setIfInBounds_toArray, List.set_cons_zero, List.set_cons_succ]
  refine wpSched_take (i := 27) (v := ?_) (by as_aux_lemma => rw [HO3.out]; simp only [List.getElem?_toArray, List.getElem?_cons_succ, List.getElem?_cons_zero]; rfl) (Or.inl ⟨(by rfl), ?_⟩) ?_
  rotate_left
  · as_aux_lemma => intro wx hSx; (try dsimp only at hSx); go_simp; try with_reducible rfl
  try simp only [Act.put, List.setIfInBounds_toArray, List.set_cons_zero, List.set_cons_succ]
  refine wpSched_take (i := 28) (v := ?_) (by as_aux_lemma => rw [HO3.out]; simp only [List.getElem?_toArray, List.getElem?_cons_succ, List.getElem?_cons_zero]; rfl) (Or.inl ⟨(by rfl), ?_⟩) ?_
  rotate_left
  · as_aux_lemma => intro wx hSx; (try dsimp only at hSx); go_simp; try with_reducible rfl
  try simp only [Act.put, List.setIfInBounds_toArray, List.set_cons_zero, List.set_cons_succ]
  refine wpSched_call (i := 29) (by as_aux_lemma => rw [HO3.out]; simp only [List.getElem?_toArray, List.getElem?_cons_succ, List.getElem?_cons_zero]; rfl) (by as_aux_lemma => rw [HO3.out]; rfl) (fun K' hK => ?_)
  go_simp
  go_at_call 17
  refine (awake01_any _).mono ?_
  rintro e w13 ⟨rfl, hU13⟩
  have u13 : Up w12 w13 := hU13
  replace U := Up.trans U u13
  replace Vx := Lib.hid (Vx.out.up u13)
  replace Vy := Lib.hid (Vy.out.up u13)
  replace bxx := Blk.up bxx u13
  replace bxy := Blk.up bxy u13
  clear hU13 u13
  have s13 := (And.intro (tri bxx) (tri bxy))
  go_wp2_with fail
  refine hK.out _ _ s13 (fun _ => ?_)
  clear hK K'
  try simp only [Act.put, List.setIfInBounds_toArray, List.set_cons_zero, List.set_cons_succ]
  clear s12
  refine wpSched_take (i := 30) (v := ?_) (by as_aux_lemma => rw [HO3.out]; simp only [List.getElem?_toArray, List.getElem?_cons_succ, List.getElem?_cons_zero]; rfl) (Or.inl ⟨(by rfl), ?_⟩) ?_
  rotate_left
  · as_aux_lemma => intro wx hSx; (try dsimp only at hSx); go_simp; try with_reducible rfl
  try simp only [Act.put, List.setIfInBounds_toArray, List.set_cons_zero, List.set_cons_succ]
  refine wpSched_take (i := 31) (v := ?_) (by as_aux_lemma => rw [HO3.out]; simp only [List.getElem?_toArray, List.getElem?_cons_succ, List.getElem?_cons_zero]; rfl) (Or.inl ⟨(by rfl), ?_⟩) ?_
  rotate_left
  · as_aux_lemma => intro wx hSx; (try dsimp only at hSx); go_simp; try with_reducible rfl
  try simp only [Act.put, List.setIfInBounds_toArray, List.set_cons_zero, List.set_cons_succ]
  refine wpSched_end (NoPanic.normal ?_)
  clear HO3 O3 s13
  obtain ⟨bxxa, bxxb, bxxc⟩ := tri bxx
  obtain ⟨bxya, bxyb, bxyc⟩ := tri bxy
  go_wp2_with fail
  go_ret
  exact ⟨rfl, U⟩
end Go.Proofs.Ytgkelddcklggnaa
