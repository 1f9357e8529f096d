/-
  RationalMultiplies: for every two rational numbers, in whatever form, the law returns true. Conditions: none.
-/
import Derived.Test.YtgkelddcklggnaaPD
import Derived.Test.YtgkelddcklggnaaPA
import Derived.Test.YtgkelddcklggnaaPJ
namespace Go.Proofs.Ytgkelddcklggnaa
open Go.RowKit

theorem RationalMultiplies_eq1 {q8 q9 x y : Rat} (e8 : q8 = x * y) (e9 : q9 = x * y)  : q8 = q9 := by
  grind

theorem RationalMultiplies_eq2 {q3 q5 x y : Rat} (e3 : q3 = x / y) (e5 : q5 = x / y)  : q3 = q5 := by
  grind

set_option maxRecDepth 100000 in
set_option maxHeartbeats 6400000 in
theorem RationalMultiplies_walk (vx : Value) (sx : Bool) (xsx ysx : List Nat) (vy : Value) (sy : Bool) (xsy ysy : List Nat) (w : World) (Rx : RV w vx sx xsx ysx) (Ry : RV w vy sy xsy ysy) :
    Calls Try.prog 4 #[vx, vy] w fun e w' => e = .returned (.bool true) ∧ Up w w' := by
  obtain ⟨Ax, cx, Bx, dx, hvx, lx, mx⟩ := Rx.shape
  obtain ⟨Ay, cy, By, dy, hvy, ly, my⟩ := Ry.shape
  have Kx := fun (wx : World) => keepRat_any sx Ax Bx xsx.length ysx.length cx dx wx lx mx
  have Ky := fun (wx : World) => keepRat_any sy Ay By xsy.length ysy.length cy dy wx ly my
  by_cases kx : xsx.length ≤ 8 ∧ ysx.length ≤ 8
  case neg =>
    rw [show (decide (xsx.length ≤ 8) && decide (ysx.length ≤ 8)) = false from by rw [← Bool.decide_and, decide_eq_false_iff_not]; exact kx] at Kx
    replace Kx := Lib.hid Kx
    subst hvx hvy
    clear Ky Ry Rx kx 
    go_enter Try.func4, Try.ntmps4
    go_wp2_with fail
    obtain ⟨w0, hw0⟩ : ∃ wx, wx = ((w.alloc (Obj.cells #[.bool sx, .slice Ax xsx.length cx, .slice Bx ysx.length dx] 24)).alloc (Obj.cells #[.bool sy, .slice Ay xsy.length cy, .slice By ysy.length dy] 24)) := ⟨_, rfl⟩
    have U : Up w w0 := by rw [hw0]; exact Below.alloc (Below.alloc (Below.refl _ _) (Nat.le_refl _) _) (by simp) _
    have bxx : Blk w0 (w.heap.size) 24 #[.bool sx, .slice Ax xsx.length cx, .slice Bx ysx.length dx] := by rw [hw0]; exact Blk.alloc (Blk.new' _ _ _ (by simp)) _
    have bxy : Blk w0 (w.heap.size + 1) 24 #[.bool sy, .slice Ay xsy.length cy, .slice By ysy.length dy] := by rw [hw0]; exact Blk.new' _ _ _ (by simp)
    rw [← hw0]
    clear hw0
    obtain ⟨bxxa, bxxb, bxxc⟩ := tri bxx
    obtain ⟨bxya, bxyb, bxyc⟩ := tri bxy
    refine (Kx.out w0).mono ?_
    rintro e w1 ⟨rfl, hU1⟩
    have u1 : Up w0 w1 := hU1
    replace U := Up.trans U u1
    replace bxx := Blk.up bxx u1
    replace bxy := Blk.up bxy u1
    clear hU1 u1
    clear bxxa bxxb bxxc bxya bxyb bxyc
    obtain ⟨bxxa, bxxb, bxxc⟩ := tri bxx
    obtain ⟨bxya, bxyb, bxyc⟩ := tri bxy
    go_wp2_with fail
    go_ret
    exact ⟨rfl, U⟩
  rw [show (decide (xsx.length ≤ 8) && decide (ysx.length ≤ 8)) = true from by rw [← Bool.decide_and, decide_eq_true_iff]; exact kx] at Kx
  have Ix := Lib.hid (Rx.iv kx.1 kx.2)
  obtain ⟨x, hx⟩ : ∃ q, q = fq sx (nv xsx) (nv ysx) := ⟨_, rfl⟩
  rw [← hx] at Ix
  have Sx : Hid (qs x ≤ 9) := Lib.hid Ix.out.qs
  replace Kx := Lib.hid Kx
  clear hx kx
  by_cases ky : xsy.length ≤ 8 ∧ ysy.length ≤ 8
  case neg =>
    rw [show (decide (xsy.length ≤ 8) && decide (ysy.length ≤ 8)) = false from by rw [← Bool.decide_and, decide_eq_false_iff_not]; exact ky] at Ky
    replace Ky := Lib.hid Ky
    subst hvx hvy
    clear  Ry ky Rx
    go_enter Try.func4, Try.ntmps4
    go_wp2_with fail
    obtain ⟨w0, hw0⟩ : ∃ wx, wx = ((w.alloc (Obj.cells #[.bool sx, .slice Ax xsx.length cx, .slice Bx ysx.length dx] 24)).alloc (Obj.cells #[.bool sy, .slice Ay xsy.length cy, .slice By ysy.length dy] 24)) := ⟨_, rfl⟩
    have U : Up w w0 := by rw [hw0]; exact Below.alloc (Below.alloc (Below.refl _ _) (Nat.le_refl _) _) (by simp) _
    have bxx : Blk w0 (w.heap.size) 24 #[.bool sx, .slice Ax xsx.length cx, .slice Bx ysx.length dx] := by rw [hw0]; exact Blk.alloc (Blk.new' _ _ _ (by simp)) _
    have bxy : Blk w0 (w.heap.size + 1) 24 #[.bool sy, .slice Ay xsy.length cy, .slice By ysy.length dy] := by rw [hw0]; exact Blk.new' _ _ _ (by simp)
    rw [← hw0]
    clear hw0
    obtain ⟨bxxa, bxxb, bxxc⟩ := tri bxx
    obtain ⟨bxya, bxyb, bxyc⟩ := tri bxy
    refine (Kx.out w0).mono ?_
    rintro e w1 ⟨rfl, hU1⟩
    have u1 : Up w0 w1 := hU1
    replace U := Up.trans U u1
    replace bxx := Blk.up bxx u1
    replace bxy := Blk.up bxy u1
    clear hU1 u1
    clear bxxa bxxb bxxc bxya bxyb bxyc
    obtain ⟨bxxa, bxxb, bxxc⟩ := tri bxx
    obtain ⟨bxya, bxyb, bxyc⟩ := tri bxy
    go_wp2_with fail
    refine (Ky.out w1).mono ?_
    rintro e w2 ⟨rfl, hU2⟩
    have u2 : Up w1 w2 := hU2
    replace U := Up.trans U u2
    replace bxx := Blk.up bxx u2
    replace bxy := Blk.up bxy u2
    clear hU2 u2
    clear bxxa bxxb bxxc bxya bxyb bxyc
    obtain ⟨bxxa, bxxb, bxxc⟩ := tri bxx
    obtain ⟨bxya, bxyb, bxyc⟩ := tri bxy
    go_wp2_with fail
    go_ret
    exact ⟨rfl, U⟩
  rw [show (decide (xsy.length ≤ 8) && decide (ysy.length ≤ 8)) = true from by rw [← Bool.decide_and, decide_eq_true_iff]; exact ky] at Ky
  have Iy := Lib.hid (Ry.iv ky.1 ky.2)
  obtain ⟨y, hy⟩ : ∃ q, q = fq sy (nv xsy) (nv ysy) := ⟨_, rfl⟩
  rw [← hy] at Iy
  have Sy : Hid (qs y ≤ 9) := Lib.hid Iy.out.qs
  replace Ky := Lib.hid Ky
  clear hy ky
  subst hvx hvy
  clear Rx Ry
  go_enter Try.func4, Try.ntmps4
  go_wp2_with fail
  obtain ⟨w0, hw0⟩ : ∃ wx, wx = ((w.alloc (Obj.cells #[.bool sx, .slice Ax xsx.length cx, .slice Bx ysx.length dx] 24)).alloc (Obj.cells #[.bool sy, .slice Ay xsy.length cy, .slice By ysy.length dy] 24)) := ⟨_, rfl⟩
  have U : Up w w0 := by rw [hw0]; exact Below.alloc (Below.alloc (Below.refl _ _) (Nat.le_refl _) _) (by simp) _
  have bxx : Blk w0 (w.heap.size) 24 #[.bool sx, .slice Ax xsx.length cx, .slice Bx ysx.length dx] := by rw [hw0]; exact Blk.alloc (Blk.new' _ _ _ (by simp)) _
  have bxy : Blk w0 (w.heap.size + 1) 24 #[.bool sy, .slice Ay xsy.length cy, .slice By ysy.length dy] := by rw [hw0]; exact Blk.new' _ _ _ (by simp)
  rw [← hw0]
  clear hw0
  obtain ⟨bxxa, bxxb, bxxc⟩ := tri bxx
  obtain ⟨bxya, bxyb, bxyc⟩ := tri bxy
  have Vx := Lib.hid (Ix.out.up U)
  have Vy := Lib.hid (Iy.out.up U)
  refine (Kx.out w0).mono ?_
  rintro e w1 ⟨rfl, hU1⟩
  have u1 : Up w0 w1 := hU1
  replace U := Up.trans U u1
  replace Vx := Lib.hid (Vx.out.up u1)
  replace Vy := Lib.hid (Vy.out.up u1)
  replace bxx := Blk.up bxx u1
  replace bxy := Blk.up bxy u1
  clear hU1 u1
  clear bxxa bxxb bxxc bxya bxyb bxyc
  obtain ⟨bxxa, bxxb, bxxc⟩ := tri bxx
  obtain ⟨bxya, bxyb, bxyc⟩ := tri bxy
  go_wp2_with fail
  refine (Ky.out w1).mono ?_
  rintro e w2 ⟨rfl, hU2⟩
  have u2 : Up w1 w2 := hU2
  replace U := Up.trans U u2
  replace Vx := Lib.hid (Vx.out.up u2)
  replace Vy := Lib.hid (Vy.out.up u2)
  replace bxx := Blk.up bxx u2
  replace bxy := Blk.up bxy u2
  clear hU2 u2
  clear bxxa bxxb bxxc bxya bxyb bxyc
  obtain ⟨bxxa, bxxb, bxxc⟩ := tri bxx
  obtain ⟨bxya, bxyb, bxyc⟩ := tri bxy
  obtain ⟨bz, hbz⟩ : ∃ b, b = decide (y ≠ 0) := ⟨_, rfl⟩
  have HZ := Lib.hid hbz
  clear hbz
  go_wp2_with fail
  have T3 := div_q Vx.out Vy.out (by omega)
  rw [← HZ.out] at T3
  refine T3.mono ?_
  rintro e w3 ⟨v3, rfl, hQ3, hU3⟩
  clear T3
  obtain ⟨s3x, A3, n3, c3, B3, m3, d3, rfl⟩ := hQ3.shape
  obtain ⟨q3, hq3⟩ : ∃ q, q = x / y := ⟨_, rfl⟩
  rw [← hq3] at hQ3
  have S3 : Hid (qs q3 ≤ 18) := Lib.hid (by rw [hq3]; have := qs_div x y; have := Sx.out; have := Sy.out; omega)
  have E3 := Lib.hid hq3
  have V3 := Lib.hid hQ3
  clear hq3 hQ3
  have u3 : Up w2 w3 := hU3
  replace U := Up.trans U u3
  replace Vx := Lib.hid (Vx.out.up u3)
  replace Vy := Lib.hid (Vy.out.up u3)
  replace bxx := Blk.up bxx u3
  replace bxy := Blk.up bxy u3
  clear hU3 u3
  clear bxxa bxxb bxxc bxya bxyb bxyc
  obtain ⟨bxxa, bxxb, bxxc⟩ := tri bxx
  obtain ⟨bxya, bxyb, bxyc⟩ := tri bxy
  have zbxx := bxx.lt
  have zbxy := bxy.lt
  go_wp2_with fail
  clear zbxx zbxy
  obtain ⟨w4, hw4⟩ : ∃ wx, wx = (w3.alloc (Obj.cells #[.bool s3x, .slice A3 n3 c3, .slice B3 m3 d3] 24)) := ⟨_, rfl⟩
  have hU4 : Up w3 w4 := by rw [hw4]; exact Below.alloc (Below.refl _ _) (Nat.le_refl _) _
  have bx3 : Blk w4 (w3.heap.size) 24 #[.bool s3x, .slice A3 n3 c3, .slice B3 m3 d3] := by rw [hw4]; exact Blk.new' _ _ _ (by simp)
  rw [← hw4]
  clear hw4
  have u4 : Up w3 w4 := hU4
  replace U := Up.trans U u4
  replace Vx := Lib.hid (Vx.out.up u4)
  replace Vy := Lib.hid (Vy.out.up u4)
  replace V3 := Lib.hid (V3.out.up u4)
  replace bxx := Blk.up bxx u4
  replace bxy := Blk.up bxy u4
  clear hU4 u4
  clear bxxa bxxb bxxc bxya bxyb bxyc
  obtain ⟨bxxa, bxxb, bxxc⟩ := tri bxx
  obtain ⟨bxya, bxyb, bxyc⟩ := tri bxy
  obtain ⟨g3, hg3⟩ : ∃ g, g = w3.heap.size := ⟨_, rfl⟩
  rw [← hg3] at bx3
  try rw [show w3.heap.size = g3 from hg3.symm]
  clear hg3
  clear bxxa bxxb bxxc bxya bxyb bxyc
  obtain ⟨bxxa, bxxb, bxxc⟩ := tri bxx
  obtain ⟨bxya, bxyb, bxyc⟩ := tri bxy
  obtain ⟨bx3a, bx3b, bx3c⟩ := tri bx3
  go_wp2_with fail
  have T5 := rDiv_q Vx.out Vy.out (by omega)
  rw [← HZ.out] at T5
  refine T5.mono ?_
  rintro e w5 ⟨v5, rfl, hQ5, hU5⟩
  clear T5
  obtain ⟨s5x, A5, n5, c5, B5, m5, d5, rfl⟩ := hQ5.shape
  obtain ⟨q5, hq5⟩ : ∃ q, q = x / y := ⟨_, rfl⟩
  rw [← hq5] at hQ5
  have S5 : Hid (qs q5 ≤ 18) := Lib.hid (by rw [hq5]; have := qs_div x y; have := Sx.out; have := Sy.out; omega)
  have E5 := Lib.hid hq5
  have V5 := Lib.hid hQ5
  clear hq5 hQ5
  have u5 : Up w4 w5 := hU5
  replace U := Up.trans U u5
  replace Vx := Lib.hid (Vx.out.up u5)
  replace Vy := Lib.hid (Vy.out.up u5)
  replace V3 := Lib.hid (V3.out.up u5)
  replace bxx := Blk.up bxx u5
  replace bxy := Blk.up bxy u5
  replace bx3 := Blk.up bx3 u5
  clear hU5 u5
  clear bxxa bxxb bxxc bxya bxyb bxyc bx3a bx3b bx3c
  obtain ⟨bxxa, bxxb, bxxc⟩ := tri bxx
  obtain ⟨bxya, bxyb, bxyc⟩ := tri bxy
  obtain ⟨bx3a, bx3b, bx3c⟩ := tri bx3
  have zbxx := bxx.lt
  have zbxy := bxy.lt
  have zbx3 := bx3.lt
  go_wp2_with fail
  clear zbxx zbxy zbx3
  obtain ⟨w6, hw6⟩ : ∃ wx, wx = (w5.alloc (Obj.cells #[.bool s5x, .slice A5 n5 c5, .slice B5 m5 d5] 24)) := ⟨_, rfl⟩
  have hU6 : Up w5 w6 := by rw [hw6]; exact Below.alloc (Below.refl _ _) (Nat.le_refl _) _
  have bx5 : Blk w6 (w5.heap.size) 24 #[.bool s5x, .slice A5 n5 c5, .slice B5 m5 d5] := by rw [hw6]; exact Blk.new' _ _ _ (by simp)
  rw [← hw6]
  clear hw6
  have u6 : Up w5 w6 := hU6
  replace U := Up.trans U u6
  replace Vx := Lib.hid (Vx.out.up u6)
  replace Vy := Lib.hid (Vy.out.up u6)
  replace V3 := Lib.hid (V3.out.up u6)
  replace V5 := Lib.hid (V5.out.up u6)
  replace bxx := Blk.up bxx u6
  replace bxy := Blk.up bxy u6
  replace bx3 := Blk.up bx3 u6
  clear hU6 u6
  clear bxxa bxxb bxxc bxya bxyb bxyc bx3a bx3b bx3c
  obtain ⟨bxxa, bxxb, bxxc⟩ := tri bxx
  obtain ⟨bxya, bxyb, bxyc⟩ := tri bxy
  obtain ⟨bx3a, bx3b, bx3c⟩ := tri bx3
  obtain ⟨g5, hg5⟩ : ∃ g, g = w5.heap.size := ⟨_, rfl⟩
  rw [← hg5] at bx5
  try rw [show w5.heap.size = g5 from hg5.symm]
  clear hg5
  clear bxxa bxxb bxxc bxya bxyb bxyc bx3a bx3b bx3c
  obtain ⟨bxxa, bxxb, bxxc⟩ := tri bxx
  obtain ⟨bxya, bxyb, bxyc⟩ := tri bxy
  obtain ⟨bx3a, bx3b, bx3c⟩ := tri bx3
  obtain ⟨bx5a, bx5b, bx5c⟩ := tri bx5
  go_wp2_with fail
  clear bxxa bxxb bxxc bxya bxyb bxyc bx3a bx3b bx3c bx5a bx5b bx5c
  have s7 := (And.intro (tri bxx) (And.intro (tri bxy) (And.intro (tri bx3) (tri bx5))))
  refine wp_region_noPanic ?_
  refine wp_region_sched (S := (fun wx => (wx.cell? ⟨w.heap.size, 0, none⟩ = some (.bool sx) ∧ wx.cell? ⟨w.heap.size, 1, none⟩ = some (.slice Ax xsx.length cx) ∧ wx.cell? ⟨w.heap.size, 2, none⟩ = some (.slice Bx ysx.length dx)) ∧ (wx.cell? ⟨w.heap.size + 1, 0, none⟩ = some (.bool sy) ∧ wx.cell? ⟨w.heap.size + 1, 1, none⟩ = some (.slice Ay xsy.length cy) ∧ wx.cell? ⟨w.heap.size + 1, 2, none⟩ = some (.slice By ysy.length dy)) ∧ (wx.cell? ⟨g3, 0, none⟩ = some (.bool s3x) ∧ wx.cell? ⟨g3, 1, none⟩ = some (.slice A3 n3 c3) ∧ wx.cell? ⟨g3, 2, none⟩ = some (.slice B3 m3 d3)) ∧ (wx.cell? ⟨g5, 0, none⟩ = some (.bool s5x) ∧ wx.cell? ⟨g5, 1, none⟩ = some (.slice A5 n5 c5) ∧ wx.cell? ⟨g5, 2, none⟩ = some (.slice B5 m5 d5)))) [(0, false), (1, false), (3, false), (4, false), (2, true), (5, true), (6, true), (7, false), (8, false), (9, false), (10, true), (11, false), (12, false), (13, false), (14, false), (15, false), (16, false), (17, false), (18, true), (19, false), (20, false)] (by kernel_rfl) (by as_aux_lemma => kernel_rfl) (by as_aux_lemma => kernel_rfl) (by as_aux_lemma => kernel_rfl) (fun _ _ _ _ _ h => h) s7 ?_
  intro O7 HO7
  refine wpSched_take (i := 0) (v := ?_) (by as_aux_lemma => rw [HO7.out]; simp only [List.getElem?_toArray, List.getElem?_cons_zero]; rfl) (Or.inl ⟨(by rfl), ?_⟩) ?_
  rotate_left
  · as_aux_lemma => intro wx hSx; (try dsimp only at hSx); go_simp; try with_reducible rfl
  try simp only [Act.put, List.setIfInBounds_toArray, List.set_cons_zero, List.set_cons_succ]
  refine wpSched_take (i := 1) (v := ?_) (by as_aux_lemma => rw [HO7.out]; simp only [List.getElem?_toArray, List.getElem?_cons_succ, List.getElem?_cons_zero]; rfl) (Or.inl ⟨(by rfl), ?_⟩) ?_
  rotate_left
  · as_aux_lemma => intro wx hSx; (try dsimp only at hSx); go_simp; try with_reducible rfl
  try simp only [Act.put, List.setIfInBounds_toArray, List.set_cons_zero, List.set_cons_succ]
  refine wpSched_take (i := 3) (v := ?_) (by as_aux_lemma => rw [HO7.out]; simp only [List.getElem?_toArray, List.getElem?_cons_succ, List.getElem?_cons_zero]; rfl) (Or.inl ⟨(by rfl), ?_⟩) ?_
  rotate_left
  · as_aux_lemma => intro wx hSx; (try dsimp only at hSx); go_simp; try with_reducible rfl
  try simp only [Act.put, List.setIfInBounds_toArray, List.set_cons_zero, List.set_cons_succ]
  refine wpSched_take (i := 4) (v := ?_) (by as_aux_lemma => rw [HO7.out]; simp only [List.getElem?_toArray, List.getElem?_cons_succ, List.getElem?_cons_zero]; rfl) (Or.inl ⟨(by rfl), ?_⟩) ?_
  rotate_left
  · as_aux_lemma => intro wx hSx; (try dsimp only at hSx); go_simp; try with_reducible rfl
  try simp only [Act.put, List.setIfInBounds_toArray, List.set_cons_zero, List.set_cons_succ]
  refine wpSched_call (i := 2) (by as_aux_lemma => rw [HO7.out]; simp only [List.getElem?_toArray, List.getElem?_cons_succ, List.getElem?_cons_zero]; rfl) (by rfl) (fun K' hK => ?_)
  go_simp
  go_at_call 20
  refine (mul_q (Vx.out.up (Up.refl w6).drew) (Vy.out.up (Up.refl w6).drew) (by omega)).mono ?_
  rintro e w8 ⟨v8, rfl, hQ8, hU8⟩
  obtain ⟨s8x, A8, n8, c8, B8, m8, d8, rfl⟩ := hQ8.shape
  obtain ⟨q8, hq8⟩ : ∃ q, q = x * y := ⟨_, rfl⟩
  rw [← hq8] at hQ8
  have S8 : Hid (qs q8 ≤ 18) := Lib.hid (by (rw [hq8]; have := qs_mul x y; have := Sx.out; have := Sy.out; omega))
  have E8 := Lib.hid hq8
  clear hq8
  have V8 := Lib.hid hQ8
  clear hQ8
  have u8 : Up w6 w8 := Up.trans (Up.refl w6).drew hU8
  replace U := Up.trans U u8
  replace Vx := Lib.hid (Vx.out.up u8)
  replace Vy := Lib.hid (Vy.out.up u8)
  replace V3 := Lib.hid (V3.out.up u8)
  replace V5 := Lib.hid (V5.out.up u8)
  replace bxx := Blk.up bxx u8
  replace bxy := Blk.up bxy u8
  replace bx3 := Blk.up bx3 u8
  replace bx5 := Blk.up bx5 u8
  clear hU8 u8
  have s8 := (And.intro (tri bxx) (And.intro (tri bxy) (And.intro (tri bx3) (tri bx5))))
  go_wp2_with fail
  refine hK.out _ _ s8 (fun _ => ?_)
  clear hK K'
  try simp only [Act.put, List.setIfInBounds_toArray, List.set_cons_zero, List.set_cons_succ]
  clear s7
  refine wpSched_call (i := 5) (by as_aux_lemma => rw [HO7.out]; simp only [List.getElem?_toArray, List.getElem?_cons_succ, List.getElem?_cons_zero]; rfl) (by rfl) (fun K' hK => ?_)
  go_simp
  go_at_call 21
  refine (rMul_q Vx.out Vy.out (by omega)).mono ?_
  rintro e w9 ⟨v9, rfl, hQ9, hU9⟩
  obtain ⟨s9x, A9, n9, c9, B9, m9, d9, rfl⟩ := hQ9.shape
  obtain ⟨q9, hq9⟩ : ∃ q, q = x * y := ⟨_, rfl⟩
  rw [← hq9] at hQ9
  have S9 : Hid (qs q9 ≤ 18) := Lib.hid (by (rw [hq9]; have := qs_mul x y; have := Sx.out; have := Sy.out; omega))
  have E9 := Lib.hid hq9
  clear hq9
  have V9 := Lib.hid hQ9
  clear hQ9
  have u9 : Up w8 w9 := hU9
  replace U := Up.trans U u9
  replace Vx := Lib.hid (Vx.out.up u9)
  replace Vy := Lib.hid (Vy.out.up u9)
  replace V3 := Lib.hid (V3.out.up u9)
  replace V5 := Lib.hid (V5.out.up u9)
  replace V8 := Lib.hid (V8.out.up u9)
  replace bxx := Blk.up bxx u9
  replace bxy := Blk.up bxy u9
  replace bx3 := Blk.up bx3 u9
  replace bx5 := Blk.up bx5 u9
  clear hU9 u9
  have s9 := (And.intro (tri bxx) (And.intro (tri bxy) (And.intro (tri bx3) (tri bx5))))
  go_wp2_with fail
  refine hK.out _ _ s9 (fun _ => ?_)
  clear hK K'
  try simp only [Act.put, List.setIfInBounds_toArray, List.set_cons_zero, List.set_cons_succ]
  clear s8
  refine wpSched_call (i := 6) (by as_aux_lemma => rw [HO7.out]; simp only [List.getElem?_toArray, List.getElem?_cons_succ, List.getElem?_cons_zero]; rfl) (by rfl) (fun K' hK => ?_)
  go_simp
  go_at_call 13
  have T10 := sameRat_q V8.out V9.out (by have := S8.out; omega) (by have := S9.out; omega)
  rw [decide_eq_true (RationalMultiplies_eq1 E8.out E9.out )] at T10
  refine T10.mono ?_
  rintro e w10 ⟨rfl, hU10⟩
  clear T10
  have u10 : Up w9 w10 := hU10
  replace U := Up.trans U u10
  replace Vx := Lib.hid (Vx.out.up u10)
  replace Vy := Lib.hid (Vy.out.up u10)
  replace V3 := Lib.hid (V3.out.up u10)
  replace V5 := Lib.hid (V5.out.up u10)
  replace V8 := Lib.hid (V8.out.up u10)
  replace V9 := Lib.hid (V9.out.up u10)
  replace bxx := Blk.up bxx u10
  replace bxy := Blk.up bxy u10
  replace bx3 := Blk.up bx3 u10
  replace bx5 := Blk.up bx5 u10
  clear hU10 u10
  have s10 := (And.intro (tri bxx) (And.intro (tri bxy) (And.intro (tri bx3) (tri bx5))))
  go_wp2_with fail
  refine hK.out _ _ s10 (fun _ => ?_)
  clear hK K'
  try simp only [Act.put, List.setIfInBounds_toArray, List.set_cons_zero, List.set_cons_succ]
  clear s9
  refine wpSched_take (i := 7) (v := ?_) (by as_aux_lemma => rw [HO7.out]; simp only [List.getElem?_toArray, List.getElem?_cons_succ, List.getElem?_cons_zero]; rfl) (Or.inl ⟨(by rfl), ?_⟩) ?_
  rotate_left
  · as_aux_lemma => intro wx hSx; (try dsimp only at hSx); go_simp; try with_reducible rfl
  try simp only [Act.put, List.setIfInBounds_toArray, List.set_cons_zero, List.set_cons_succ]
  refine wpSched_take (i := 8) (v := ?_) (by as_aux_lemma => rw [HO7.out]; simp only [List.getElem?_toArray, List.getElem?_cons_succ, List.getElem?_cons_zero]; rfl) (Or.inl ⟨(by as_aux_lemma => rw [HO7.out]; rfl), ?_⟩) ?_
  rotate_left
  · as_aux_lemma => intro wx hSx; (try dsimp only at hSx); go_simp; try with_reducible rfl
  try simp only [Act.put, List.setIfInBounds_toArray, List.set_cons_zero, List.set_cons_succ]
  refine wpSched_take (i := 9) (v := ?_) (by as_aux_lemma => rw [HO7.out]; simp only [List.getElem?_toArray, List.getElem?_cons_succ, List.getElem?_cons_zero]; rfl) (Or.inl ⟨(by as_aux_lemma => rw [HO7.out]; rfl), ?_⟩) ?_
  rotate_left
  · as_aux_lemma => intro wx hSx; (try dsimp only at hSx); go_simp; try with_reducible rfl
  try simp only [Act.put, List.setIfInBounds_toArray, List.set_cons_zero, List.set_cons_succ]
  clear V8 V9
  refine wpSched_call (i := 10) (by as_aux_lemma => rw [HO7.out]; simp only [List.getElem?_toArray, List.getElem?_cons_succ, List.getElem?_cons_zero]; rfl) (by as_aux_lemma => rw [HO7.out]; rfl) (fun K' hK => ?_)
  go_simp
  go_at_call 13
  have T11 := sameRat_q V3.out V5.out (by have := S3.out; omega) (by have := S5.out; omega)
  rw [decide_eq_true (RationalMultiplies_eq2 E3.out E5.out )] at T11
  refine T11.mono ?_
  rintro e w11 ⟨rfl, hU11⟩
  clear T11
  have u11 : Up w10 w11 := hU11
  replace U := Up.trans U u11
  replace Vx := Lib.hid (Vx.out.up u11)
  replace Vy := Lib.hid (Vy.out.up u11)
  replace V3 := Lib.hid (V3.out.up u11)
  replace V5 := Lib.hid (V5.out.up u11)
  replace bxx := Blk.up bxx u11
  replace bxy := Blk.up bxy u11
  replace bx3 := Blk.up bx3 u11
  replace bx5 := Blk.up bx5 u11
  clear hU11 u11
  have s11 := (And.intro (tri bxx) (And.intro (tri bxy) (And.intro (tri bx3) (tri bx5))))
  go_wp2_with fail
  refine hK.out _ _ s11 (fun _ => ?_)
  clear hK K'
  try simp only [Act.put, List.setIfInBounds_toArray, List.set_cons_zero, List.set_cons_succ]
  clear s10
  refine wpSched_take (i := 11) (v := ?_) (by as_aux_lemma => rw [HO7.out]; simp only [List.getElem?_toArray, List.getElem?_cons_succ, List.getElem?_cons_zero]; rfl) (Or.inl ⟨(by rfl), ?_⟩) ?_
  rotate_left
  · as_aux_lemma => intro wx hSx; (try dsimp only at hSx); go_simp; try with_reducible rfl
  try simp only [Act.put, List.setIfInBounds_toArray, List.set_cons_zero, List.set_cons_succ]
  refine wpSched_take (i := 12) (v := ?_) (by as_aux_lemma => rw [HO7.out]; simp only [List.getElem?_toArray, List.getElem?_cons_succ, List.getElem?_cons_zero]; rfl) (Or.inl ⟨(by rfl), ?_⟩) ?_
  rotate_left
  · as_aux_lemma => intro wx hSx; (try dsimp only at hSx); go_simp; try with_reducible rfl
  try simp only [Act.put, List.setIfInBounds_toArray, List.set_cons_zero, List.set_cons_succ]
  refine wpSched_take (i := 13) (v := ?_) (by as_aux_lemma => rw [HO7.out]; simp only [List.getElem?_toArray, List.getElem?_cons_succ, List.getElem?_cons_zero]; rfl) (Or.inl ⟨(by as_aux_lemma => rw [HO7.out]; rfl), ?_⟩) ?_
  rotate_left
  · as_aux_lemma => intro wx hSx; (try dsimp only at hSx); go_simp; try with_reducible rfl
  try simp only [Act.put, List.setIfInBounds_toArray, List.set_cons_zero, List.set_cons_succ]
  refine wpSched_take (i := 14) (v := ?_) (by as_aux_lemma => rw [HO7.out]; simp only [List.getElem?_toArray, List.getElem?_cons_succ, List.getElem?_cons_zero]; rfl) (Or.inl ⟨(by as_aux_lemma => rw [HO7.out]; rfl), ?_⟩) ?_
  rotate_left
  · as_aux_lemma => intro wx hSx; (try dsimp only at hSx); go_simp; try with_reducible rfl
  try simp only [Act.put, List.setIfInBounds_toArray, List.set_cons_zero, List.set_cons_succ]
  refine wpSched_take (i := 15) (v := ?_) (by as_aux_lemma => rw [HO7.out]; simp only [List.getElem?_toArray, List.getElem?_cons_succ, List.getElem?_cons_zero]; rfl) (Or.inl ⟨(by as_aux_lemma => rw [HO7.out]; rfl), ?_⟩) ?_
  rotate_left
  · as_aux_lemma => intro wx hSx; (try dsimp only at hSx); go_simp; try with_reducible rfl
  try simp only [Act.put, List.setIfInBounds_toArray, List.set_cons_zero, List.set_cons_succ]
  refine wpSched_take (i := 16) (v := ?_) (by as_aux_lemma => rw [HO7.out]; simp only [List.getElem?_toArray, List.getElem?_cons_succ, List.getElem?_cons_zero]; rfl) (Or.inl ⟨(by rfl), ?_⟩) ?_
  rotate_left
  · as_aux_lemma => intro wx hSx; (try dsimp only at hSx); go_simp; try with_reducible rfl
  try simp only [Act.put, List.setIfInBounds_toArray, List.set_cons_zero, List.set_cons_succ]
  refine wpSched_take (i := 17) (v := ?_) (by as_aux_lemma => rw [HO7.out]; simp only [List.getElem?_toArray, List.getElem?_cons_succ, List.getElem?_cons_zero]; rfl) (Or.inl ⟨(by rfl), ?_⟩) ?_
  rotate_left
  · as_aux_lemma => intro wx hSx; (try dsimp only at hSx); go_simp; try with_reducible rfl
  try simp only [Act.put, List.setIfInBounds_toArray, List.set_cons_zero, List.set_cons_succ]
  clear V3 V5
  refine wpSched_call (i := 18) (by as_aux_lemma => rw [HO7.out]; simp only [List.getElem?_toArray, List.getElem?_cons_succ, List.getElem?_cons_zero]; rfl) (by as_aux_lemma => rw [HO7.out]; rfl) (fun K' hK => ?_)
  go_simp
  go_at_call 17
  refine (awake01_any _).mono ?_
  rintro e w12 ⟨rfl, hU12⟩
  have u12 : Up w11 w12 := hU12
  replace U := Up.trans U u12
  replace Vx := Lib.hid (Vx.out.up u12)
  replace Vy := Lib.hid (Vy.out.up u12)
  replace bxx := Blk.up bxx u12
  replace bxy := Blk.up bxy u12
  replace bx3 := Blk.up bx3 u12
  replace bx5 := Blk.up bx5 u12
  clear hU12 u12
  have s12 := (And.intro (tri bxx) (And.intro (tri bxy) (And.intro (tri bx3) (tri bx5))))
  go_wp2_with fail
  refine hK.out _ _ s12 (fun _ => ?_)
  clear hK K'
  try simp only [Act.put, List.setIfInBounds_toArray, List.set_cons_zero, List.set_cons_succ]
  clear s11
  refine wpSched_take (i := 19) (v := ?_) (by as_aux_lemma => rw [HO7.out]; simp only [List.getElem?_toArray, List.getElem?_cons_succ, List.getElem?_cons_zero]; rfl) (Or.inl ⟨(by rfl), ?_⟩) ?_
  rotate_left
  · as_aux_lemma => intro wx hSx; (try dsimp only at hSx); go_simp; try with_reducible rfl
  try simp only [Act.put, List.setIfInBounds_toArray, List.set_cons_zero, List.set_cons_succ]
  refine wpSched_take (i := 20) (v := ?_) (by as_aux_lemma => rw [HO7.out]; simp only [List.getElem?_toArray, List.getElem?_cons_succ, List.getElem?_cons_zero]; rfl) (Or.inl ⟨(by rfl), ?_⟩) ?_
  rotate_left
  · as_aux_lemma => intro wx hSx; (try dsimp only at hSx); go_simp; try with_reducible rfl
  try simp only [Act.put, List.setIfInBounds_toArray, List.set_cons_zero, List.set_cons_succ]
  refine wpSched_end (NoPanic.normal ?_)
  clear HO7 O7 s12
  obtain ⟨bxxa, bxxb, bxxc⟩ := tri bxx
  obtain ⟨bxya, bxyb, bxyc⟩ := tri bxy
  obtain ⟨bx3a, bx3b, bx3c⟩ := tri bx3
  obtain ⟨bx5a, bx5b, bx5c⟩ := tri bx5
  go_wp2_with fail
  go_ret
  exact ⟨rfl, U⟩
end Go.Proofs.Ytgkelddcklggnaa
