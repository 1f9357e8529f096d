/-
  RationalField: for every three rational numbers, in whatever form, the law returns true. Conditions: none.
-/
import Derived.Test.YtoedmnalnpmleaaRFrame
import Derived.Test.YtoedmnalnpmleaaSched
namespace Go.Proofs.Ytoedmnalnpmleaa
open Go.RowKit

theorem RationalField_eq1 {q11 q12 q8 x y : Rat} (e8 : q8 = x / y) (e11 : q11 = q8 * y) (e12 : q12 = x) (hz : y ≠ 0) : q11 = q12 := by
  have := Rat.div_mul_cancel (a := x) hz; grind

theorem RationalField_eq2 {q17 q19 q16 x y z q18 : Rat} (e16 : q16 = x + y) (e17 : q17 = q16 + z) (e18 : q18 = y + z) (e19 : q19 = x + q18)  : q17 = q19 := by
  grind

theorem RationalField_eq3 {q22 q24 q21 x y z q23 : Rat} (e21 : q21 = x * y) (e22 : q22 = q21 * z) (e23 : q23 = y * z) (e24 : q24 = x * q23)  : q22 = q24 := by
  grind

theorem RationalField_eq4 {q26 q27 x y : Rat} (e26 : q26 = x + y) (e27 : q27 = y + x)  : q26 = q27 := by
  grind

theorem RationalField_eq5 {q29 q30 x y : Rat} (e29 : q29 = x * y) (e30 : q30 = y * x)  : q29 = q30 := by
  grind

theorem RationalField_eq6 {q33 q36 q32 y z x q34 q35 : Rat} (e32 : q32 = y + z) (e33 : q33 = x * q32) (e34 : q34 = x * y) (e35 : q35 = x * z) (e36 : q36 = q34 + q35)  : q33 = q36 := by
  grind

theorem RationalField_eq7 {q38 q4 x : Rat} (e4 : q4 = ((0 : Int) : Rat)) (e38 : q38 = x - x)  : q38 = q4 := by
  simp at *; grind

theorem RationalField_eq8 {q40 q41 q4 x : Rat} (e4 : q4 = ((0 : Int) : Rat)) (e40 : q40 = x + q4) (e41 : q41 = x)  : q40 = q41 := by
  simp at *; grind

theorem RationalField_eq9 {q43 q44 q5 x : Rat} (e5 : q5 = ((1 : Int) : Rat)) (e43 : q43 = x * q5) (e44 : q44 = x)  : q43 = q44 := by
  simp at *; grind

set_option maxRecDepth 100000 in
set_option maxHeartbeats 3200000 in
theorem RationalField_walk (vx : Value) (sx : Bool) (xsx ysx : List Nat) (vy : Value) (sy : Bool) (xsy ysy : List Nat) (vz : Value) (sz : Bool) (xsz ysz : List Nat) (w : World) (Rx : RV w vx sx xsx ysx) (Ry : RV w vy sy xsy ysy) (Rz : RV w vz sz xsz ysz) :
    Calls Try.prog 3 #[vx, vy, vz] w fun e w' => e = .returned (.bool true) ∧ Up w w' := by
  obtain ⟨Ax, cx, Bx, dx, hvx, lx, mx⟩ := Rx.shape
  obtain ⟨Ay, cy, By, dy, hvy, ly, my⟩ := Ry.shape
  obtain ⟨Az, cz, Bz, dz, hvz, lz, mz⟩ := Rz.shape
  have Kx := fun (wx : World) => keepRat_any sx Ax Bx xsx.length ysx.length cx dx wx lx mx
  have Ky := fun (wx : World) => keepRat_any sy Ay By xsy.length ysy.length cy dy wx ly my
  have Kz := fun (wx : World) => keepRat_any sz Az Bz xsz.length ysz.length cz dz wx lz mz
  by_cases kx : xsx.length ≤ 8 ∧ ysx.length ≤ 8
  case neg =>
    rw [show (decide (xsx.length ≤ 8) && decide (ysx.length ≤ 8)) = false from by rw [← Bool.decide_and, decide_eq_false_iff_not]; exact kx] at Kx
    replace Kx := Lib.hid Kx
    subst hvx hvy hvz
    clear Ky Ry Kz Rz Rx kx 
    go_enter Try.func3, Try.ntmps3
    go_wp2_with fail
    obtain ⟨w0, hw0⟩ : ∃ wx, wx = (((w.alloc (Obj.cells #[.bool sx, .slice Ax xsx.length cx, .slice Bx ysx.length dx] 24)).alloc (Obj.cells #[.bool sy, .slice Ay xsy.length cy, .slice By ysy.length dy] 24)).alloc (Obj.cells #[.bool sz, .slice Az xsz.length cz, .slice Bz ysz.length dz] 24)) := ⟨_, rfl⟩
    have U : Up w w0 := by rw [hw0]; exact Below.alloc (Below.alloc (Below.alloc (Below.refl _ _) (Nat.le_refl _) _) (by (simp <;> omega)) _) (by (simp <;> omega)) _
    have bxx : Blk w0 (w.heap.size) 24 #[.bool sx, .slice Ax xsx.length cx, .slice Bx ysx.length dx] := by rw [hw0]; exact Blk.alloc (Blk.alloc (Blk.new' _ _ _ (by simp)) _) _
    have bxy : Blk w0 (w.heap.size + 1) 24 #[.bool sy, .slice Ay xsy.length cy, .slice By ysy.length dy] := by rw [hw0]; exact Blk.alloc (Blk.new' _ _ _ (by simp)) _
    have bxz : Blk w0 (w.heap.size + 2) 24 #[.bool sz, .slice Az xsz.length cz, .slice Bz ysz.length dz] := by rw [hw0]; exact Blk.new' _ _ _ (by simp)
    rw [← hw0]
    clear hw0
    obtain ⟨bxxa, bxxb, bxxc⟩ := tri bxx
    obtain ⟨bxya, bxyb, bxyc⟩ := tri bxy
    obtain ⟨bxza, bxzb, bxzc⟩ := tri bxz
    refine (Kx.out w0).mono ?_
    rintro e w1 ⟨rfl, hU1⟩
    have u1 : Up w0 w1 := hU1
    replace U := Up.trans U u1
    replace bxx := Blk.up bxx u1
    replace bxy := Blk.up bxy u1
    replace bxz := Blk.up bxz u1
    clear hU1 u1
    clear bxxa bxxb bxxc bxya bxyb bxyc bxza bxzb bxzc
    obtain ⟨bxxa, bxxb, bxxc⟩ := tri bxx
    obtain ⟨bxya, bxyb, bxyc⟩ := tri bxy
    obtain ⟨bxza, bxzb, bxzc⟩ := tri bxz
    go_wp2_with fail
    go_ret
    exact ⟨rfl, U⟩
  rw [show (decide (xsx.length ≤ 8) && decide (ysx.length ≤ 8)) = true from by rw [← Bool.decide_and, decide_eq_true_iff]; exact kx] at Kx
  have Ix := Lib.hid (Rx.iv kx.1 kx.2)
  obtain ⟨x, hx⟩ : ∃ q, q = fq sx (nv xsx) (nv ysx) := ⟨_, rfl⟩
  rw [← hx] at Ix
  have Sx : Hid (qs x ≤ 9) := Lib.hid Ix.out.qs
  replace Kx := Lib.hid Kx
  clear hx kx
  by_cases ky : xsy.length ≤ 8 ∧ ysy.length ≤ 8
  case neg =>
    rw [show (decide (xsy.length ≤ 8) && decide (ysy.length ≤ 8)) = false from by rw [← Bool.decide_and, decide_eq_false_iff_not]; exact ky] at Ky
    replace Ky := Lib.hid Ky
    subst hvx hvy hvz
    clear Kz Rz Ry ky Rx
    go_enter Try.func3, Try.ntmps3
    go_wp2_with fail
    obtain ⟨w0, hw0⟩ : ∃ wx, wx = (((w.alloc (Obj.cells #[.bool sx, .slice Ax xsx.length cx, .slice Bx ysx.length dx] 24)).alloc (Obj.cells #[.bool sy, .slice Ay xsy.length cy, .slice By ysy.length dy] 24)).alloc (Obj.cells #[.bool sz, .slice Az xsz.length cz, .slice Bz ysz.length dz] 24)) := ⟨_, rfl⟩
    have U : Up w w0 := by rw [hw0]; exact Below.alloc (Below.alloc (Below.alloc (Below.refl _ _) (Nat.le_refl _) _) (by (simp <;> omega)) _) (by (simp <;> omega)) _
    have bxx : Blk w0 (w.heap.size) 24 #[.bool sx, .slice Ax xsx.length cx, .slice Bx ysx.length dx] := by rw [hw0]; exact Blk.alloc (Blk.alloc (Blk.new' _ _ _ (by simp)) _) _
    have bxy : Blk w0 (w.heap.size + 1) 24 #[.bool sy, .slice Ay xsy.length cy, .slice By ysy.length dy] := by rw [hw0]; exact Blk.alloc (Blk.new' _ _ _ (by simp)) _
    have bxz : Blk w0 (w.heap.size + 2) 24 #[.bool sz, .slice Az xsz.length cz, .slice Bz ysz.length dz] := by rw [hw0]; exact Blk.new' _ _ _ (by simp)
    rw [← hw0]
    clear hw0
    obtain ⟨bxxa, bxxb, bxxc⟩ := tri bxx
    obtain ⟨bxya, bxyb, bxyc⟩ := tri bxy
    obtain ⟨bxza, bxzb, bxzc⟩ := tri bxz
    refine (Kx.out w0).mono ?_
    rintro e w1 ⟨rfl, hU1⟩
    have u1 : Up w0 w1 := hU1
    replace U := Up.trans U u1
    replace bxx := Blk.up bxx u1
    replace bxy := Blk.up bxy u1
    replace bxz := Blk.up bxz u1
    clear hU1 u1
    clear bxxa bxxb bxxc bxya bxyb bxyc bxza bxzb bxzc
    obtain ⟨bxxa, bxxb, bxxc⟩ := tri bxx
    obtain ⟨bxya, bxyb, bxyc⟩ := tri bxy
    obtain ⟨bxza, bxzb, bxzc⟩ := tri bxz
    go_wp2_with fail
    refine (Ky.out w1).mono ?_
    rintro e w2 ⟨rfl, hU2⟩
    have u2 : Up w1 w2 := hU2
    replace U := Up.trans U u2
    replace bxx := Blk.up bxx u2
    replace bxy := Blk.up bxy u2
    replace bxz := Blk.up bxz u2
    clear hU2 u2
    clear bxxa bxxb bxxc bxya bxyb bxyc bxza bxzb bxzc
    obtain ⟨bxxa, bxxb, bxxc⟩ := tri bxx
    obtain ⟨bxya, bxyb, bxyc⟩ := tri bxy
    obtain ⟨bxza, bxzb, bxzc⟩ := tri bxz
    go_wp2_with fail
    go_ret
    exact ⟨rfl, U⟩
  rw [show (decide (xsy.length ≤ 8) && decide (ysy.length ≤ 8)) = true from by rw [← Bool.decide_and, decide_eq_true_iff]; exact ky] at Ky
  have Iy := Lib.hid (Ry.iv ky.1 ky.2)
  obtain ⟨y, hy⟩ : ∃ q, q = fq sy (nv xsy) (nv ysy) := ⟨_, rfl⟩
  rw [← hy] at Iy
  have Sy : Hid (qs y ≤ 9) := Lib.hid Iy.out.qs
  replace Ky := Lib.hid Ky
  clear hy ky
  by_cases kz : xsz.length ≤ 8 ∧ ysz.length ≤ 8
  case neg =>
    rw [show (decide (xsz.length ≤ 8) && decide (ysz.length ≤ 8)) = false from by rw [← Bool.decide_and, decide_eq_false_iff_not]; exact kz] at Kz
    replace Kz := Lib.hid Kz
    subst hvx hvy hvz
    clear  Rz kz Rx Ry
    go_enter Try.func3, Try.ntmps3
    go_wp2_with fail
    obtain ⟨w0, hw0⟩ : ∃ wx, wx = (((w.alloc (Obj.cells #[.bool sx, .slice Ax xsx.length cx, .slice Bx ysx.length dx] 24)).alloc (Obj.cells #[.bool sy, .slice Ay xsy.length cy, .slice By ysy.length dy] 24)).alloc (Obj.cells #[.bool sz, .slice Az xsz.length cz, .slice Bz ysz.length dz] 24)) := ⟨_, rfl⟩
    have U : Up w w0 := by rw [hw0]; exact Below.alloc (Below.alloc (Below.alloc (Below.refl _ _) (Nat.le_refl _) _) (by (simp <;> omega)) _) (by (simp <;> omega)) _
    have bxx : Blk w0 (w.heap.size) 24 #[.bool sx, .slice Ax xsx.length cx, .slice Bx ysx.length dx] := by rw [hw0]; exact Blk.alloc (Blk.alloc (Blk.new' _ _ _ (by simp)) _) _
    have bxy : Blk w0 (w.heap.size + 1) 24 #[.bool sy, .slice Ay xsy.length cy, .slice By ysy.length dy] := by rw [hw0]; exact Blk.alloc (Blk.new' _ _ _ (by simp)) _
    have bxz : Blk w0 (w.heap.size + 2) 24 #[.bool sz, .slice Az xsz.length cz, .slice Bz ysz.length dz] := by rw [hw0]; exact Blk.new' _ _ _ (by simp)
    rw [← hw0]
    clear hw0
    obtain ⟨bxxa, bxxb, bxxc⟩ := tri bxx
    obtain ⟨bxya, bxyb, bxyc⟩ := tri bxy
    obtain ⟨bxza, bxzb, bxzc⟩ := tri bxz
    refine (Kx.out w0).mono ?_
    rintro e w1 ⟨rfl, hU1⟩
    have u1 : Up w0 w1 := hU1
    replace U := Up.trans U u1
    replace bxx := Blk.up bxx u1
    replace bxy := Blk.up bxy u1
    replace bxz := Blk.up bxz u1
    clear hU1 u1
    clear bxxa bxxb bxxc bxya bxyb bxyc bxza bxzb bxzc
    obtain ⟨bxxa, bxxb, bxxc⟩ := tri bxx
    obtain ⟨bxya, bxyb, bxyc⟩ := tri bxy
    obtain ⟨bxza, bxzb, bxzc⟩ := tri bxz
    go_wp2_with fail
    refine (Ky.out w1).mono ?_
    rintro e w2 ⟨rfl, hU2⟩
    have u2 : Up w1 w2 := hU2
    replace U := Up.trans U u2
    replace bxx := Blk.up bxx u2
    replace bxy := Blk.up bxy u2
    replace bxz := Blk.up bxz u2
    clear hU2 u2
    clear bxxa bxxb bxxc bxya bxyb bxyc bxza bxzb bxzc
    obtain ⟨bxxa, bxxb, bxxc⟩ := tri bxx
    obtain ⟨bxya, bxyb, bxyc⟩ := tri bxy
    obtain ⟨bxza, bxzb, bxzc⟩ := tri bxz
    go_wp2_with fail
    refine (Kz.out w2).mono ?_
    rintro e w3 ⟨rfl, hU3⟩
    have u3 : Up w2 w3 := hU3
    replace U := Up.trans U u3
    replace bxx := Blk.up bxx u3
    replace bxy := Blk.up bxy u3
    replace bxz := Blk.up bxz u3
    clear hU3 u3
    clear bxxa bxxb bxxc bxya bxyb bxyc bxza bxzb bxzc
    obtain ⟨bxxa, bxxb, bxxc⟩ := tri bxx
    obtain ⟨bxya, bxyb, bxyc⟩ := tri bxy
    obtain ⟨bxza, bxzb, bxzc⟩ := tri bxz
    go_wp2_with fail
    go_ret
    exact ⟨rfl, U⟩
  rw [show (decide (xsz.length ≤ 8) && decide (ysz.length ≤ 8)) = true from by rw [← Bool.decide_and, decide_eq_true_iff]; exact kz] at Kz
  have Iz := Lib.hid (Rz.iv kz.1 kz.2)
  obtain ⟨z, hz⟩ : ∃ q, q = fq sz (nv xsz) (nv ysz) := ⟨_, rfl⟩
  rw [← hz] at Iz
  have Sz : Hid (qs z ≤ 9) := Lib.hid Iz.out.qs
  replace Kz := Lib.hid Kz
  clear hz kz
  subst hvx hvy hvz
  clear Rx Ry Rz
  go_enter Try.func3, Try.ntmps3
  go_wp2_with fail
  obtain ⟨w0, hw0⟩ : ∃ wx, wx = (((w.alloc (Obj.cells #[.bool sx, .slice Ax xsx.length cx, .slice Bx ysx.length dx] 24)).alloc (Obj.cells #[.bool sy, .slice Ay xsy.length cy, .slice By ysy.length dy] 24)).alloc (Obj.cells #[.bool sz, .slice Az xsz.length cz, .slice Bz ysz.length dz] 24)) := ⟨_, rfl⟩
  have U : Up w w0 := by rw [hw0]; exact Below.alloc (Below.alloc (Below.alloc (Below.refl _ _) (Nat.le_refl _) _) (by (simp <;> omega)) _) (by (simp <;> omega)) _
  have bxx : Blk w0 (w.heap.size) 24 #[.bool sx, .slice Ax xsx.length cx, .slice Bx ysx.length dx] := by rw [hw0]; exact Blk.alloc (Blk.alloc (Blk.new' _ _ _ (by simp)) _) _
  have bxy : Blk w0 (w.heap.size + 1) 24 #[.bool sy, .slice Ay xsy.length cy, .slice By ysy.length dy] := by rw [hw0]; exact Blk.alloc (Blk.new' _ _ _ (by simp)) _
  have bxz : Blk w0 (w.heap.size + 2) 24 #[.bool sz, .slice Az xsz.length cz, .slice Bz ysz.length dz] := by rw [hw0]; exact Blk.new' _ _ _ (by simp)
  rw [← hw0]
  clear hw0
  obtain ⟨bxxa, bxxb, bxxc⟩ := tri bxx
  obtain ⟨bxya, bxyb, bxyc⟩ := tri bxy
  obtain ⟨bxza, bxzb, bxzc⟩ := tri bxz
  have Vx := Lib.hid (Ix.out.up U)
  have Vy := Lib.hid (Iy.out.up U)
  have Vz := Lib.hid (Iz.out.up U)
  refine (Kx.out w0).mono ?_
  rintro e w1 ⟨rfl, hU1⟩
  have u1 : Up w0 w1 := hU1
  replace U := Up.trans U u1
  replace Vx := Lib.hid (Vx.out.up u1)
  replace Vy := Lib.hid (Vy.out.up u1)
  replace Vz := Lib.hid (Vz.out.up u1)
  replace bxx := Blk.up bxx u1
  replace bxy := Blk.up bxy u1
  replace bxz := Blk.up bxz u1
  clear hU1 u1
  clear bxxa bxxb bxxc bxya bxyb bxyc bxza bxzb bxzc
  obtain ⟨bxxa, bxxb, bxxc⟩ := tri bxx
  obtain ⟨bxya, bxyb, bxyc⟩ := tri bxy
  obtain ⟨bxza, bxzb, bxzc⟩ := tri bxz
  go_wp2_with fail
  refine (Ky.out w1).mono ?_
  rintro e w2 ⟨rfl, hU2⟩
  have u2 : Up w1 w2 := hU2
  replace U := Up.trans U u2
  replace Vx := Lib.hid (Vx.out.up u2)
  replace Vy := Lib.hid (Vy.out.up u2)
  replace Vz := Lib.hid (Vz.out.up u2)
  replace bxx := Blk.up bxx u2
  replace bxy := Blk.up bxy u2
  replace bxz := Blk.up bxz u2
  clear hU2 u2
  clear bxxa bxxb bxxc bxya bxyb bxyc bxza bxzb bxzc
  obtain ⟨bxxa, bxxb, bxxc⟩ := tri bxx
  obtain ⟨bxya, bxyb, bxyc⟩ := tri bxy
  obtain ⟨bxza, bxzb, bxzc⟩ := tri bxz
  go_wp2_with fail
  refine (Kz.out w2).mono ?_
  rintro e w3 ⟨rfl, hU3⟩
  have u3 : Up w2 w3 := hU3
  replace U := Up.trans U u3
  replace Vx := Lib.hid (Vx.out.up u3)
  replace Vy := Lib.hid (Vy.out.up u3)
  replace Vz := Lib.hid (Vz.out.up u3)
  replace bxx := Blk.up bxx u3
  replace bxy := Blk.up bxy u3
  replace bxz := Blk.up bxz u3
  clear hU3 u3
  clear bxxa bxxb bxxc bxya bxyb bxyc bxza bxzb bxzc
  obtain ⟨bxxa, bxxb, bxxc⟩ := tri bxx
  obtain ⟨bxya, bxyb, bxyc⟩ := tri bxy
  obtain ⟨bxza, bxzb, bxzc⟩ := tri bxz
  go_wp2_with fail
  refine (fromInt_q 0 (by omega) (by omega)).mono ?_
  rintro e w4 ⟨v4, rfl, hQ4, hU4⟩
  obtain ⟨s4x, A4, n4, c4, B4, m4, d4, rfl⟩ := hQ4.shape
  obtain ⟨q4, hq4⟩ : ∃ q, q = ((0 : Int) : Rat) := ⟨_, rfl⟩
  rw [← hq4] at hQ4
  have S4 : Hid (qs q4 ≤ 3) := Lib.hid (by (rw [hq4]; exact qs_int _ (by omega) (by omega)))
  have E4 := Lib.hid hq4
  clear hq4
  have V4 := Lib.hid hQ4
  clear hQ4
  have u4 : Up w3 w4 := hU4
  replace U := Up.trans U u4
  replace Vx := Lib.hid (Vx.out.up u4)
  replace Vy := Lib.hid (Vy.out.up u4)
  replace Vz := Lib.hid (Vz.out.up u4)
  replace bxx := Blk.up bxx u4
  replace bxy := Blk.up bxy u4
  replace bxz := Blk.up bxz u4
  clear hU4 u4
  clear bxxa bxxb bxxc bxya bxyb bxyc bxza bxzb bxzc
  obtain ⟨bxxa, bxxb, bxxc⟩ := tri bxx
  obtain ⟨bxya, bxyb, bxyc⟩ := tri bxy
  obtain ⟨bxza, bxzb, bxzc⟩ := tri bxz
  go_wp2_with fail
  refine (fromInt_q 1 (by omega) (by omega)).mono ?_
  rintro e w5 ⟨v5, rfl, hQ5, hU5⟩
  obtain ⟨s5x, A5, n5, c5, B5, m5, d5, rfl⟩ := hQ5.shape
  obtain ⟨q5, hq5⟩ : ∃ q, q = ((1 : Int) : Rat) := ⟨_, rfl⟩
  rw [← hq5] at hQ5
  have S5 : Hid (qs q5 ≤ 3) := Lib.hid (by (rw [hq5]; exact qs_int _ (by omega) (by omega)))
  have E5 := Lib.hid hq5
  clear hq5
  have V5 := Lib.hid hQ5
  clear hQ5
  have u5 : Up w4 w5 := hU5
  replace U := Up.trans U u5
  replace Vx := Lib.hid (Vx.out.up u5)
  replace Vy := Lib.hid (Vy.out.up u5)
  replace Vz := Lib.hid (Vz.out.up u5)
  replace V4 := Lib.hid (V4.out.up u5)
  replace bxx := Blk.up bxx u5
  replace bxy := Blk.up bxy u5
  replace bxz := Blk.up bxz u5
  clear hU5 u5
  clear bxxa bxxb bxxc bxya bxyb bxyc bxza bxzb bxzc
  obtain ⟨bxxa, bxxb, bxxc⟩ := tri bxx
  obtain ⟨bxya, bxyb, bxyc⟩ := tri bxy
  obtain ⟨bxza, bxzb, bxzc⟩ := tri bxz
  have zbxx := bxx.lt
  have zbxy := bxy.lt
  have zbxz := bxz.lt
  go_wp2_with fail
  clear zbxx zbxy zbxz
  obtain ⟨w6, hw6⟩ : ∃ wx, wx = ((w5.alloc (Obj.cells #[.bool s4x, .slice A4 n4 c4, .slice B4 m4 d4] 24)).alloc (Obj.cells #[.bool s5x, .slice A5 n5 c5, .slice B5 m5 d5] 24)) := ⟨_, rfl⟩
  have hU6 : Up w5 w6 := by rw [hw6]; exact Below.alloc (Below.alloc (Below.refl _ _) (Nat.le_refl _) _) (by simp) _
  have bx4 : Blk w6 (w5.heap.size) 24 #[.bool s4x, .slice A4 n4 c4, .slice B4 m4 d4] := by rw [hw6]; exact Blk.alloc (Blk.new' _ _ _ (by simp)) _
  have bx5 : Blk w6 (w5.heap.size + 1) 24 #[.bool s5x, .slice A5 n5 c5, .slice B5 m5 d5] := by rw [hw6]; exact Blk.new' _ _ _ (by simp)
  rw [← hw6]
  clear hw6
  have u6 : Up w5 w6 := hU6
  replace U := Up.trans U u6
  replace Vx := Lib.hid (Vx.out.up u6)
  replace Vy := Lib.hid (Vy.out.up u6)
  replace Vz := Lib.hid (Vz.out.up u6)
  replace V4 := Lib.hid (V4.out.up u6)
  replace V5 := Lib.hid (V5.out.up u6)
  replace bxx := Blk.up bxx u6
  replace bxy := Blk.up bxy u6
  replace bxz := Blk.up bxz u6
  clear hU6 u6
  clear bxxa bxxb bxxc bxya bxyb bxyc bxza bxzb bxzc
  obtain ⟨bxxa, bxxb, bxxc⟩ := tri bxx
  obtain ⟨bxya, bxyb, bxyc⟩ := tri bxy
  obtain ⟨bxza, bxzb, bxzc⟩ := tri bxz
  obtain ⟨g4, hg4⟩ : ∃ g, g = w5.heap.size := ⟨_, rfl⟩
  obtain ⟨g5, hg5⟩ : ∃ g, g = w5.heap.size + 1 := ⟨_, rfl⟩
  rw [← hg5] at bx5
  try rw [show w5.heap.size + 1 = g5 from hg5.symm]
  rw [← hg4] at bx4
  try rw [show w5.heap.size = g4 from hg4.symm]
  clear hg4 hg5
  clear bxxa bxxb bxxc bxya bxyb bxyc bxza bxzb bxzc
  obtain ⟨bxxa, bxxb, bxxc⟩ := tri bxx
  obtain ⟨bxya, bxyb, bxyc⟩ := tri bxy
  obtain ⟨bxza, bxzb, bxzc⟩ := tri bxz
  obtain ⟨bx4a, bx4b, bx4c⟩ := tri bx4
  obtain ⟨bx5a, bx5b, bx5c⟩ := tri bx5
  obtain ⟨σ, hσ⟩ : ∃ σ, σ = sgn y := ⟨_, rfl⟩
  have HT := Lib.hid hσ
  clear hσ
  go_wp2_with fail
  have T7 := sign_q Vy.out (by omega)
  rw [← HT.out] at T7
  refine T7.mono ?_
  rintro e w7 ⟨rfl, hU7⟩
  clear T7
  have u7 : Up w6 w7 := hU7
  replace U := Up.trans U u7
  replace Vx := Lib.hid (Vx.out.up u7)
  replace Vy := Lib.hid (Vy.out.up u7)
  replace Vz := Lib.hid (Vz.out.up u7)
  replace V4 := Lib.hid (V4.out.up u7)
  replace V5 := Lib.hid (V5.out.up u7)
  replace bxx := Blk.up bxx u7
  replace bxy := Blk.up bxy u7
  replace bxz := Blk.up bxz u7
  replace bx4 := Blk.up bx4 u7
  replace bx5 := Blk.up bx5 u7
  clear hU7 u7
  clear bxxa bxxb bxxc bxya bxyb bxyc bxza bxzb bxzc bx4a bx4b bx4c bx5a bx5b bx5c
  obtain ⟨bxxa, bxxb, bxxc⟩ := tri bxx
  obtain ⟨bxya, bxyb, bxyc⟩ := tri bxy
  obtain ⟨bxza, bxzb, bxzc⟩ := tri bxz
  obtain ⟨bx4a, bx4b, bx4c⟩ := tri bx4
  obtain ⟨bx5a, bx5b, bx5c⟩ := tri bx5
  go_upto_if 28 with fail
  go_cut [] (fun wx => Up w7 wx)
  case first =>
    by_cases hs0 : σ = 0
    case pos =>
      subst hs0
      go_wp2_with fail
      go_meet
      exact Up.refl _
    have hyt : (σ != 0) = true := by simpa using hs0
    have HZ : Hid (y ≠ 0) := Lib.hid (by rintro h; apply hs0; rw [HT.out, h, sgn_zero])
    clear hs0
    have C := Up.refl w7
    go_wp2_with fail
    have T8 := div_q Vx.out Vy.out (by omega)
    rw [show decide (y ≠ 0) = true from by rw [decide_eq_true_iff]; exact HZ.out] at T8
    refine T8.mono ?_
    rintro e w8 ⟨v8, rfl, hQ8, hU8⟩
    clear T8
    obtain ⟨s8x, A8, n8, c8, B8, m8, d8, rfl⟩ := hQ8.shape
    obtain ⟨q8, hq8⟩ : ∃ q, q = x / y := ⟨_, rfl⟩
    rw [← hq8] at hQ8
    have S8 : Hid (qs q8 ≤ 18) := Lib.hid (by rw [hq8]; have := qs_div x y; have := Sx.out; have := Sy.out; omega)
    have E8 := Lib.hid hq8
    have V8 := Lib.hid hQ8
    clear hq8 hQ8
    have u8 : Up w7 w8 := hU8
    replace U := Up.trans U u8
    replace C := Up.trans C u8
    replace Vx := Lib.hid (Vx.out.up u8)
    replace Vy := Lib.hid (Vy.out.up u8)
    replace Vz := Lib.hid (Vz.out.up u8)
    replace V4 := Lib.hid (V4.out.up u8)
    replace V5 := Lib.hid (V5.out.up u8)
    replace bxx := Blk.up bxx u8
    replace bxy := Blk.up bxy u8
    replace bxz := Blk.up bxz u8
    replace bx4 := Blk.up bx4 u8
    replace bx5 := Blk.up bx5 u8
    clear hU8 u8
    clear bxxa bxxb bxxc bxya bxyb bxyc bxza bxzb bxzc bx4a bx4b bx4c bx5a bx5b bx5c
    obtain ⟨bxxa, bxxb, bxxc⟩ := tri bxx
    obtain ⟨bxya, bxyb, bxyc⟩ := tri bxy
    obtain ⟨bxza, bxzb, bxzc⟩ := tri bxz
    obtain ⟨bx4a, bx4b, bx4c⟩ := tri bx4
    obtain ⟨bx5a, bx5b, bx5c⟩ := tri bx5
    have zbxx := bxx.lt
    have zbxy := bxy.lt
    have zbxz := bxz.lt
    have zbx4 := bx4.lt
    have zbx5 := bx5.lt
    go_wp2_with fail
    clear zbxx zbxy zbxz zbx4 zbx5
    obtain ⟨w9, hw9⟩ : ∃ wx, wx = (w8.alloc (Obj.cells #[.bool s8x, .slice A8 n8 c8, .slice B8 m8 d8] 24)) := ⟨_, rfl⟩
    have hU9 : Up w8 w9 := by rw [hw9]; exact Below.alloc (Below.refl _ _) (Nat.le_refl _) _
    have bx8 : Blk w9 (w8.heap.size) 24 #[.bool s8x, .slice A8 n8 c8, .slice B8 m8 d8] := by rw [hw9]; exact Blk.new' _ _ _ (by simp)
    rw [← hw9]
    clear hw9
    have u9 : Up w8 w9 := hU9
    replace U := Up.trans U u9
    replace C := Up.trans C u9
    replace Vx := Lib.hid (Vx.out.up u9)
    replace Vy := Lib.hid (Vy.out.up u9)
    replace Vz := Lib.hid (Vz.out.up u9)
    replace V4 := Lib.hid (V4.out.up u9)
    replace V5 := Lib.hid (V5.out.up u9)
    replace V8 := Lib.hid (V8.out.up u9)
    replace bxx := Blk.up bxx u9
    replace bxy := Blk.up bxy u9
    replace bxz := Blk.up bxz u9
    replace bx4 := Blk.up bx4 u9
    replace bx5 := Blk.up bx5 u9
    clear hU9 u9
    clear bxxa bxxb bxxc bxya bxyb bxyc bxza bxzb bxzc bx4a bx4b bx4c bx5a bx5b bx5c
    obtain ⟨bxxa, bxxb, bxxc⟩ := tri bxx
    obtain ⟨bxya, bxyb, bxyc⟩ := tri bxy
    obtain ⟨bxza, bxzb, bxzc⟩ := tri bxz
    obtain ⟨bx4a, bx4b, bx4c⟩ := tri bx4
    obtain ⟨bx5a, bx5b, bx5c⟩ := tri bx5
    obtain ⟨g8, hg8⟩ : ∃ g, g = w8.heap.size := ⟨_, rfl⟩
    rw [← hg8] at bx8
    try rw [show w8.heap.size = g8 from hg8.symm]
    clear hg8
    clear bxxa bxxb bxxc bxya bxyb bxyc bxza bxzb bxzc bx4a bx4b bx4c bx5a bx5b bx5c
    obtain ⟨bxxa, bxxb, bxxc⟩ := tri bxx
    obtain ⟨bxya, bxyb, bxyc⟩ := tri bxy
    obtain ⟨bxza, bxzb, bxzc⟩ := tri bxz
    obtain ⟨bx4a, bx4b, bx4c⟩ := tri bx4
    obtain ⟨bx5a, bx5b, bx5c⟩ := tri bx5
    obtain ⟨bx8a, bx8b, bx8c⟩ := tri bx8
    go_wp2_with fail
    clear bxxa bxxb bxxc bxya bxyb bxyc bxza bxzb bxzc bx4a bx4b bx4c bx5a bx5b bx5c bx8a bx8b bx8c
    have s10 := (And.intro (tri bxx) (And.intro (tri bxy) (And.intro (tri bxz) (And.intro (tri bx4) (And.intro (tri bx5) (tri bx8))))))
    refine wp_region_noPanic ?_
    refine wp_region_sched (S := (fun wx => (wx.cell? ⟨w.heap.size, 0, none⟩ = some (.bool sx) ∧ wx.cell? ⟨w.heap.size, 1, none⟩ = some (.slice Ax xsx.length cx) ∧ wx.cell? ⟨w.heap.size, 2, none⟩ = some (.slice Bx ysx.length dx)) ∧ (wx.cell? ⟨w.heap.size + 1, 0, none⟩ = some (.bool sy) ∧ wx.cell? ⟨w.heap.size + 1, 1, none⟩ = some (.slice Ay xsy.length cy) ∧ wx.cell? ⟨w.heap.size + 1, 2, none⟩ = some (.slice By ysy.length dy)) ∧ (wx.cell? ⟨w.heap.size + 2, 0, none⟩ = some (.bool sz) ∧ wx.cell? ⟨w.heap.size + 2, 1, none⟩ = some (.slice Az xsz.length cz) ∧ wx.cell? ⟨w.heap.size + 2, 2, none⟩ = some (.slice Bz ysz.length dz)) ∧ (wx.cell? ⟨g4, 0, none⟩ = some (.bool s4x) ∧ wx.cell? ⟨g4, 1, none⟩ = some (.slice A4 n4 c4) ∧ wx.cell? ⟨g4, 2, none⟩ = some (.slice B4 m4 d4)) ∧ (wx.cell? ⟨g5, 0, none⟩ = some (.bool s5x) ∧ wx.cell? ⟨g5, 1, none⟩ = some (.slice A5 n5 c5) ∧ wx.cell? ⟨g5, 2, none⟩ = some (.slice B5 m5 d5)) ∧ (wx.cell? ⟨g8, 0, none⟩ = some (.bool s8x) ∧ wx.cell? ⟨g8, 1, none⟩ = some (.slice A8 n8 c8) ∧ wx.cell? ⟨g8, 2, none⟩ = some (.slice B8 m8 d8)))) [(0, false), (1, false), (2, false), (3, false), (4, false), (6, false), (5, true), (7, true), (8, true), (9, false), (10, false)] (by kernel_rfl) (by as_aux_lemma => kernel_rfl) (by as_aux_lemma => kernel_rfl) (by as_aux_lemma => kernel_rfl) (fun _ _ _ _ _ h => h) s10 ?_
    intro O10 HO10
    refine wpSched_take (i := 0) (v := ?v1) (by as_aux_lemma => rw [HO10.out]; simp only [List.append_eq, List.cons_append, List.nil_append, List.getElem?_toArray, List.getElem?_cons_succ, List.getElem?_cons_zero]; rfl) (Or.inl ⟨(by rfl), ?y1⟩) ?r1
    case y1 => as_aux_lemma => intro wx hSx; (try dsimp only at hSx); go_simp; try with_reducible rfl
    try simp only [Act.put, List.setIfInBounds_toArray, List.set_cons_zero, List.set_cons_succ]
    refine wpSched_take (i := 1) (v := ?v2) (by as_aux_lemma => rw [HO10.out]; simp only [List.append_eq, List.cons_append, List.nil_append, List.getElem?_toArray, List.getElem?_cons_succ, List.getElem?_cons_zero]; rfl) (Or.inl ⟨(by rfl), ?y2⟩) ?r2
    case y2 => as_aux_lemma => intro wx hSx; (try dsimp only at hSx); go_simp; try with_reducible rfl
    try simp only [Act.put, List.setIfInBounds_toArray, List.set_cons_zero, List.set_cons_succ]
    refine wpSched_take (i := 2) (v := ?v3) (by as_aux_lemma => rw [HO10.out]; simp only [List.append_eq, List.cons_append, List.nil_append, List.getElem?_toArray, List.getElem?_cons_succ, List.getElem?_cons_zero]; rfl) (Or.inl ⟨(by rfl), ?y3⟩) ?r3
    case y3 => as_aux_lemma => intro wx hSx; (try dsimp only at hSx); go_simp; try with_reducible rfl
    try simp only [Act.put, List.setIfInBounds_toArray, List.set_cons_zero, List.set_cons_succ]
    refine wpSched_take (i := 3) (v := ?v4) (by as_aux_lemma => rw [HO10.out]; simp only [List.append_eq, List.cons_append, List.nil_append, List.getElem?_toArray, List.getElem?_cons_succ, List.getElem?_cons_zero]; rfl) (Or.inl ⟨(by as_aux_lemma => rw [HO10.out]; rfl), ?y4⟩) ?r4
    case y4 => as_aux_lemma => intro wx hSx; (try dsimp only at hSx); go_simp; try with_reducible rfl
    try simp only [Act.put, List.setIfInBounds_toArray, List.set_cons_zero, List.set_cons_succ]
    refine wpSched_take (i := 4) (v := ?v5) (by as_aux_lemma => rw [HO10.out]; simp only [List.append_eq, List.cons_append, List.nil_append, List.getElem?_toArray, List.getElem?_cons_succ, List.getElem?_cons_zero]; rfl) (Or.inl ⟨(by as_aux_lemma => rw [HO10.out]; rfl), ?y5⟩) ?r5
    case y5 => as_aux_lemma => intro wx hSx; (try dsimp only at hSx); go_simp; try with_reducible rfl
    try simp only [Act.put, List.setIfInBounds_toArray, List.set_cons_zero, List.set_cons_succ]
    refine wpSched_take (i := 6) (v := ?v6) (by as_aux_lemma => rw [HO10.out]; simp only [List.append_eq, List.cons_append, List.nil_append, List.getElem?_toArray, List.getElem?_cons_succ, List.getElem?_cons_zero]; rfl) (Or.inl ⟨(by as_aux_lemma => rw [HO10.out]; rfl), ?y6⟩) ?r6
    case y6 => as_aux_lemma => intro wx hSx; (try dsimp only at hSx); go_simp; try with_reducible rfl
    try simp only [Act.put, List.setIfInBounds_toArray, List.set_cons_zero, List.set_cons_succ]
    refine wpSched_call (i := 5) (by as_aux_lemma => rw [HO10.out]; simp only [List.append_eq, List.cons_append, List.nil_append, List.getElem?_toArray, List.getElem?_cons_succ, List.getElem?_cons_zero]; rfl) (by as_aux_lemma => rw [HO10.out]; rfl) (fun K' hK => ?_)
    go_simp
    go_at_call 12
    refine (mul_q ((V8.out.up (Up.refl w9).drew).iv S8.out) (Vy.out.up (Up.refl w9).drew) (by omega)).mono ?_
    rintro e w11 ⟨v11, rfl, hQ11, hU11⟩
    obtain ⟨s11x, A11, n11, c11, B11, m11, d11, rfl⟩ := hQ11.shape
    obtain ⟨q11, hq11⟩ : ∃ q, q = q8 * y := ⟨_, rfl⟩
    rw [← hq11] at hQ11
    have S11 : Hid (qs q11 ≤ 27) := Lib.hid (by (rw [hq11]; have := qs_mul q8 y; have := S8.out; have := Sy.out; omega))
    have E11 := Lib.hid hq11
    clear hq11
    have V11 := Lib.hid hQ11
    clear hQ11
    have u11 : Up w9 w11 := Up.trans (Up.refl w9).drew hU11
    replace U := Up.trans U u11
    replace C := Up.trans C u11
    replace Vx := Lib.hid (Vx.out.up u11)
    replace Vy := Lib.hid (Vy.out.up u11)
    replace Vz := Lib.hid (Vz.out.up u11)
    replace V4 := Lib.hid (V4.out.up u11)
    replace V5 := Lib.hid (V5.out.up u11)
    replace V8 := Lib.hid (V8.out.up u11)
    replace bxx := Blk.up bxx u11
    replace bxy := Blk.up bxy u11
    replace bxz := Blk.up bxz u11
    replace bx4 := Blk.up bx4 u11
    replace bx5 := Blk.up bx5 u11
    replace bx8 := Blk.up bx8 u11
    clear hU11 u11
    have s11 := (And.intro (tri bxx) (And.intro (tri bxy) (And.intro (tri bxz) (And.intro (tri bx4) (And.intro (tri bx5) (tri bx8))))))
    go_wp2_with fail
    refine hK.out _ _ s11 (fun _ => ?_)
    clear hK K'
    try simp only [Act.put, List.setIfInBounds_toArray, List.set_cons_zero, List.set_cons_succ]
    clear s10
    refine wpSched_call (i := 7) (by as_aux_lemma => rw [HO10.out]; simp only [List.append_eq, List.cons_append, List.nil_append, List.getElem?_toArray, List.getElem?_cons_succ, List.getElem?_cons_zero]; rfl) (by as_aux_lemma => rw [HO10.out]; rfl) (fun K' hK => ?_)
    go_simp
    go_at_call 13
    refine (canonical_q Vx.out (by omega)).mono ?_
    rintro e w12 ⟨v12, rfl, hQ12, hU12⟩
    obtain ⟨s12x, A12, n12, c12, B12, m12, d12, rfl⟩ := hQ12.shape
    obtain ⟨q12, hq12⟩ : ∃ q, q = x := ⟨_, rfl⟩
    rw [← hq12] at hQ12
    have S12 : Hid (qs q12 ≤ 9) := Lib.hid (by (rw [hq12]; have := trivial; have := Sx.out; omega))
    have E12 := Lib.hid hq12
    clear hq12
    have V12 := Lib.hid hQ12
    clear hQ12
    have u12 : Up w11 w12 := hU12
    replace U := Up.trans U u12
    replace C := Up.trans C u12
    replace Vx := Lib.hid (Vx.out.up u12)
    replace Vy := Lib.hid (Vy.out.up u12)
    replace Vz := Lib.hid (Vz.out.up u12)
    replace V4 := Lib.hid (V4.out.up u12)
    replace V5 := Lib.hid (V5.out.up u12)
    replace V8 := Lib.hid (V8.out.up u12)
    replace V11 := Lib.hid (V11.out.up u12)
    replace bxx := Blk.up bxx u12
    replace bxy := Blk.up bxy u12
    replace bxz := Blk.up bxz u12
    replace bx4 := Blk.up bx4 u12
    replace bx5 := Blk.up bx5 u12
    replace bx8 := Blk.up bx8 u12
    clear hU12 u12
    have s12 := (And.intro (tri bxx) (And.intro (tri bxy) (And.intro (tri bxz) (And.intro (tri bx4) (And.intro (tri bx5) (tri bx8))))))
    go_wp2_with fail
    refine hK.out _ _ s12 (fun _ => ?_)
    clear hK K'
    try simp only [Act.put, List.setIfInBounds_toArray, List.set_cons_zero, List.set_cons_succ]
    clear s11
    refine wpSched_call (i := 8) (by as_aux_lemma => rw [HO10.out]; simp only [List.append_eq, List.cons_append, List.nil_append, List.getElem?_toArray, List.getElem?_cons_succ, List.getElem?_cons_zero]; rfl) (by as_aux_lemma => rw [HO10.out]; rfl) (fun K' hK => ?_)
    go_simp
    go_at_call 11
    have T13 := sameRat_q V11.out V12.out (by have := S11.out; omega) (by have := S12.out; omega)
    rw [decide_eq_true (RationalField_eq1 E8.out E11.out E12.out HZ.out)] at T13
    refine T13.mono ?_
    rintro e w13 ⟨rfl, hU13⟩
    clear T13
    have u13 : Up w12 w13 := hU13
    replace U := Up.trans U u13
    replace C := Up.trans C u13
    replace Vx := Lib.hid (Vx.out.up u13)
    replace Vy := Lib.hid (Vy.out.up u13)
    replace Vz := Lib.hid (Vz.out.up u13)
    replace V4 := Lib.hid (V4.out.up u13)
    replace V5 := Lib.hid (V5.out.up u13)
    replace V8 := Lib.hid (V8.out.up u13)
    replace V11 := Lib.hid (V11.out.up u13)
    replace V12 := Lib.hid (V12.out.up u13)
    replace bxx := Blk.up bxx u13
    replace bxy := Blk.up bxy u13
    replace bxz := Blk.up bxz u13
    replace bx4 := Blk.up bx4 u13
    replace bx5 := Blk.up bx5 u13
    replace bx8 := Blk.up bx8 u13
    clear hU13 u13
    have s13 := (And.intro (tri bxx) (And.intro (tri bxy) (And.intro (tri bxz) (And.intro (tri bx4) (And.intro (tri bx5) (tri bx8))))))
    go_wp2_with fail
    refine hK.out _ _ s13 (fun _ => ?_)
    clear hK K'
    try simp only [Act.put, List.setIfInBounds_toArray, List.set_cons_zero, List.set_cons_succ]
    clear s12
    refine wpSched_take (i := 9) (v := ?v7) (by as_aux_lemma => rw [HO10.out]; simp only [List.append_eq, List.cons_append, List.nil_append, List.getElem?_toArray, List.getElem?_cons_succ, List.getElem?_cons_zero]; rfl) (Or.inl ⟨(by as_aux_lemma => rw [HO10.out]; rfl), ?y7⟩) ?r7
    case y7 => as_aux_lemma => intro wx hSx; (try dsimp only at hSx); go_simp; try with_reducible rfl
    try simp only [Act.put, List.setIfInBounds_toArray, List.set_cons_zero, List.set_cons_succ]
    refine wpSched_take (i := 10) (v := ?v8) (by as_aux_lemma => rw [HO10.out]; simp only [List.append_eq, List.cons_append, List.nil_append, List.getElem?_toArray, List.getElem?_cons_succ, List.getElem?_cons_zero]; rfl) (Or.inl ⟨(by rfl), ?y8⟩) ?r8
    case y8 => as_aux_lemma => intro wx hSx; (try dsimp only at hSx); go_simp; try with_reducible rfl
    try simp only [Act.put, List.setIfInBounds_toArray, List.set_cons_zero, List.set_cons_succ]
    clear V11 V12
    refine wpSched_end (NoPanic.normal ?_)
    clear HO10 O10 s13
    obtain ⟨bxxa, bxxb, bxxc⟩ := tri bxx
    obtain ⟨bxya, bxyb, bxyc⟩ := tri bxy
    obtain ⟨bxza, bxzb, bxzc⟩ := tri bxz
    obtain ⟨bx4a, bx4b, bx4c⟩ := tri bx4
    obtain ⟨bx5a, bx5b, bx5c⟩ := tri bx5
    obtain ⟨bx8a, bx8b, bx8c⟩ := tri bx8
    go_wp2_with fail
    go_meet
    exact C
  case rest =>
    have u14 : Up w7 wc := hcut
    replace U := Up.trans U u14
    replace Vx := Lib.hid (Vx.out.up u14)
    replace Vy := Lib.hid (Vy.out.up u14)
    replace Vz := Lib.hid (Vz.out.up u14)
    replace V4 := Lib.hid (V4.out.up u14)
    replace V5 := Lib.hid (V5.out.up u14)
    replace bxx := Blk.up bxx u14
    replace bxy := Blk.up bxy u14
    replace bxz := Blk.up bxz u14
    replace bx4 := Blk.up bx4 u14
    replace bx5 := Blk.up bx5 u14
    clear hcut u14
    clear bxxa bxxb bxxc bxya bxyb bxyc bxza bxzb bxzc bx4a bx4b bx4c bx5a bx5b bx5c
    obtain ⟨bxxa, bxxb, bxxc⟩ := tri bxx
    obtain ⟨bxya, bxyb, bxyc⟩ := tri bxy
    obtain ⟨bxza, bxzb, bxzc⟩ := tri bxz
    obtain ⟨bx4a, bx4b, bx4c⟩ := tri bx4
    obtain ⟨bx5a, bx5b, bx5c⟩ := tri bx5
    clear HT
    go_wp2_with fail
    clear bxxa bxxb bxxc bxya bxyb bxyc bxza bxzb bxzc bx4a bx4b bx4c bx5a bx5b bx5c
    have s15 := (And.intro (tri bxx) (And.intro (tri bxy) (And.intro (tri bxz) (And.intro (tri bx4) (tri bx5)))))
    refine wp_region_noPanic ?_
    refine wp_region_sched (S := (fun wx => (wx.cell? ⟨w.heap.size, 0, none⟩ = some (.bool sx) ∧ wx.cell? ⟨w.heap.size, 1, none⟩ = some (.slice Ax xsx.length cx) ∧ wx.cell? ⟨w.heap.size, 2, none⟩ = some (.slice Bx ysx.length dx)) ∧ (wx.cell? ⟨w.heap.size + 1, 0, none⟩ = some (.bool sy) ∧ wx.cell? ⟨w.heap.size + 1, 1, none⟩ = some (.slice Ay xsy.length cy) ∧ wx.cell? ⟨w.heap.size + 1, 2, none⟩ = some (.slice By ysy.length dy)) ∧ (wx.cell? ⟨w.heap.size + 2, 0, none⟩ = some (.bool sz) ∧ wx.cell? ⟨w.heap.size + 2, 1, none⟩ = some (.slice Az xsz.length cz) ∧ wx.cell? ⟨w.heap.size + 2, 2, none⟩ = some (.slice Bz ysz.length dz)) ∧ (wx.cell? ⟨g4, 0, none⟩ = some (.bool s4x) ∧ wx.cell? ⟨g4, 1, none⟩ = some (.slice A4 n4 c4) ∧ wx.cell? ⟨g4, 2, none⟩ = some (.slice B4 m4 d4)) ∧ (wx.cell? ⟨g5, 0, none⟩ = some (.bool s5x) ∧ wx.cell? ⟨g5, 1, none⟩ = some (.slice A5 n5 c5) ∧ wx.cell? ⟨g5, 2, none⟩ = some (.slice B5 m5 d5)))) [(0, false), (1, false), (3, false), (5, false), (6, false), (7, false), (2, true), (4, true), (8, true), (9, true), (10, true), (11, false), (12, false), (13, false), (15, false), (17, false), (18, false), (19, false), (14, true), (16, true), (20, true), (21, true), (22, true), (23, false), (24, false), (25, false), (26, false), (28, false), (29, false), (27, true), (30, true), (31, true), (32, false), (33, false), (34, false), (35, false), (37, false), (38, false), (36, true), (39, true), (40, true), (41, false), (42, false), (43, false), (44, false), (45, false), (48, false), (49, false), (51, false), (52, false), (46, true), (47, true), (50, true), (53, true), (54, true), (55, true), (56, false), (57, false), (58, false), (59, false), (61, false), (60, true), (62, true), (63, false), (64, false), (65, false), (66, false), (68, false), (67, true), (69, true), (70, true), (71, false), (72, false), (73, false), (74, false), (76, false), (75, true), (77, true), (78, true), (79, false), (80, false), (81, true), (82, false), (83, false)] (by kernel_rfl) (by as_aux_lemma => kernel_rfl) (by as_aux_lemma => kernel_rfl) (by as_aux_lemma => kernel_rfl) (fun _ _ _ _ _ h => h) s15 ?_
    intro O15 HO15
    refine wpSched_take (i := 0) (v := ?v9) (by as_aux_lemma => rw [HO15.out]; simp only [List.append_eq, List.cons_append, List.nil_append, List.getElem?_toArray, List.getElem?_cons_succ, List.getElem?_cons_zero]; rfl) (Or.inl ⟨(by rfl), ?y9⟩) ?r9
    case y9 => as_aux_lemma => intro wx hSx; (try dsimp only at hSx); go_simp; try with_reducible rfl
    try simp only [Act.put, List.setIfInBounds_toArray, List.set_cons_zero, List.set_cons_succ]
    refine wpSched_take (i := 1) (v := ?v10) (by as_aux_lemma => rw [HO15.out]; simp only [List.append_eq, List.cons_append, List.nil_append, List.getElem?_toArray, List.getElem?_cons_succ, List.getElem?_cons_zero]; rfl) (Or.inl ⟨(by rfl), ?y10⟩) ?r10
    case y10 => as_aux_lemma => intro wx hSx; (try dsimp only at hSx); go_simp; try with_reducible rfl
    try simp only [Act.put, List.setIfInBounds_toArray, List.set_cons_zero, List.set_cons_succ]
    refine wpSched_take (i := 3) (v := ?v11) (by as_aux_lemma => rw [HO15.out]; simp only [List.append_eq, List.cons_append, List.nil_append, List.getElem?_toArray, List.getElem?_cons_succ, List.getElem?_cons_zero]; rfl) (Or.inl ⟨(by rfl), ?y11⟩) ?r11
    case y11 => as_aux_lemma => intro wx hSx; (try dsimp only at hSx); go_simp; try with_reducible rfl
    try simp only [Act.put, List.setIfInBounds_toArray, List.set_cons_zero, List.set_cons_succ]
    refine wpSched_take (i := 5) (v := ?v12) (by as_aux_lemma => rw [HO15.out]; simp only [List.append_eq, List.cons_append, List.nil_append, List.getElem?_toArray, List.getElem?_cons_succ, List.getElem?_cons_zero]; rfl) (Or.inl ⟨(by rfl), ?y12⟩) ?r12
    case y12 => as_aux_lemma => intro wx hSx; (try dsimp only at hSx); go_simp; try with_reducible rfl
    try simp only [Act.put, List.setIfInBounds_toArray, List.set_cons_zero, List.set_cons_succ]
    refine wpSched_take (i := 6) (v := ?v13) (by as_aux_lemma => rw [HO15.out]; simp only [List.append_eq, List.cons_append, List.nil_append, List.getElem?_toArray, List.getElem?_cons_succ, List.getElem?_cons_zero]; rfl) (Or.inl ⟨(by rfl), ?y13⟩) ?r13
    case y13 => as_aux_lemma => intro wx hSx; (try dsimp only at hSx); go_simp; try with_reducible rfl
    try simp only [Act.put, List.setIfInBounds_toArray, List.set_cons_zero, List.set_cons_succ]
    refine wpSched_take (i := 7) (v := ?v14) (by as_aux_lemma => rw [HO15.out]; simp only [List.append_eq, List.cons_append, List.nil_append, List.getElem?_toArray, List.getElem?_cons_succ, List.getElem?_cons_zero]; rfl) (Or.inl ⟨(by rfl), ?y14⟩) ?r14
    case y14 => as_aux_lemma => intro wx hSx; (try dsimp only at hSx); go_simp; try with_reducible rfl
    try simp only [Act.put, List.setIfInBounds_toArray, List.set_cons_zero, List.set_cons_succ]
    refine wpSched_call (i := 2) (by as_aux_lemma => rw [HO15.out]; simp only [List.append_eq, List.cons_append, List.nil_append, List.getElem?_toArray, List.getElem?_cons_succ, List.getElem?_cons_zero]; rfl) (by rfl) (fun K' hK => ?_)
    go_simp
    go_at_call 14
    refine (add_q (Vx.out.up (Up.refl wc).drew) (Vy.out.up (Up.refl wc).drew) (by omega)).mono ?_
    rintro e w16 ⟨v16, rfl, hQ16, hU16⟩
    obtain ⟨s16x, A16, n16, c16, B16, m16, d16, rfl⟩ := hQ16.shape
    obtain ⟨q16, hq16⟩ : ∃ q, q = x + y := ⟨_, rfl⟩
    rw [← hq16] at hQ16
    have S16 : Hid (qs q16 ≤ 19) := Lib.hid (by (rw [hq16]; have := qs_add x y; have := Sx.out; have := Sy.out; omega))
    have E16 := Lib.hid hq16
    clear hq16
    have V16 := Lib.hid hQ16
    clear hQ16
    have u16 : Up wc w16 := Up.trans (Up.refl wc).drew hU16
    replace U := Up.trans U u16
    replace Vx := Lib.hid (Vx.out.up u16)
    replace Vy := Lib.hid (Vy.out.up u16)
    replace Vz := Lib.hid (Vz.out.up u16)
    replace V4 := Lib.hid (V4.out.up u16)
    replace V5 := Lib.hid (V5.out.up u16)
    replace bxx := Blk.up bxx u16
    replace bxy := Blk.up bxy u16
    replace bxz := Blk.up bxz u16
    replace bx4 := Blk.up bx4 u16
    replace bx5 := Blk.up bx5 u16
    clear hU16 u16
    have s16 := (And.intro (tri bxx) (And.intro (tri bxy) (And.intro (tri bxz) (And.intro (tri bx4) (tri bx5)))))
    go_wp2_with fail
    refine hK.out _ _ s16 (fun _ => ?_)
    clear hK K'
    try simp only [Act.put, List.setIfInBounds_toArray, List.set_cons_zero, List.set_cons_succ]
    clear s15
    refine wpSched_call (i := 4) (by as_aux_lemma => rw [HO15.out]; simp only [List.append_eq, List.cons_append, List.nil_append, List.getElem?_toArray, List.getElem?_cons_succ, List.getElem?_cons_zero]; rfl) (by rfl) (fun K' hK => ?_)
    go_simp
    go_at_call 14
    refine (add_q (V16.out.iv S16.out) Vz.out (by omega)).mono ?_
    rintro e w17 ⟨v17, rfl, hQ17, hU17⟩
    obtain ⟨s17x, A17, n17, c17, B17, m17, d17, rfl⟩ := hQ17.shape
    obtain ⟨q17, hq17⟩ : ∃ q, q = q16 + z := ⟨_, rfl⟩
    rw [← hq17] at hQ17
    have S17 : Hid (qs q17 ≤ 29) := Lib.hid (by (rw [hq17]; have := qs_add q16 z; have := S16.out; have := Sz.out; omega))
    have E17 := Lib.hid hq17
    clear hq17
    have V17 := Lib.hid hQ17
    clear hQ17
    have u17 : Up w16 w17 := hU17
    replace U := Up.trans U u17
    replace Vx := Lib.hid (Vx.out.up u17)
    replace Vy := Lib.hid (Vy.out.up u17)
    replace Vz := Lib.hid (Vz.out.up u17)
    replace V4 := Lib.hid (V4.out.up u17)
    replace V5 := Lib.hid (V5.out.up u17)
    replace V16 := Lib.hid (V16.out.up u17)
    replace bxx := Blk.up bxx u17
    replace bxy := Blk.up bxy u17
    replace bxz := Blk.up bxz u17
    replace bx4 := Blk.up bx4 u17
    replace bx5 := Blk.up bx5 u17
    clear hU17 u17
    have s17 := (And.intro (tri bxx) (And.intro (tri bxy) (And.intro (tri bxz) (And.intro (tri bx4) (tri bx5)))))
    go_wp2_with fail
    refine hK.out _ _ s17 (fun _ => ?_)
    clear hK K'
    try simp only [Act.put, List.setIfInBounds_toArray, List.set_cons_zero, List.set_cons_succ]
    clear s16
    refine wpSched_call (i := 8) (by as_aux_lemma => rw [HO15.out]; simp only [List.append_eq, List.cons_append, List.nil_append, List.getElem?_toArray, List.getElem?_cons_succ, List.getElem?_cons_zero]; rfl) (by rfl) (fun K' hK => ?_)
    go_simp
    go_at_call 14
    refine (add_q Vy.out Vz.out (by omega)).mono ?_
    rintro e w18 ⟨v18, rfl, hQ18, hU18⟩
    obtain ⟨s18x, A18, n18, c18, B18, m18, d18, rfl⟩ := hQ18.shape
    obtain ⟨q18, hq18⟩ : ∃ q, q = y + z := ⟨_, rfl⟩
    rw [← hq18] at hQ18
    have S18 : Hid (qs q18 ≤ 19) := Lib.hid (by (rw [hq18]; have := qs_add y z; have := Sy.out; have := Sz.out; omega))
    have E18 := Lib.hid hq18
    clear hq18
    have V18 := Lib.hid hQ18
    clear hQ18
    have u18 : Up w17 w18 := hU18
    replace U := Up.trans U u18
    replace Vx := Lib.hid (Vx.out.up u18)
    replace Vy := Lib.hid (Vy.out.up u18)
    replace Vz := Lib.hid (Vz.out.up u18)
    replace V4 := Lib.hid (V4.out.up u18)
    replace V5 := Lib.hid (V5.out.up u18)
    replace V16 := Lib.hid (V16.out.up u18)
    replace V17 := Lib.hid (V17.out.up u18)
    replace bxx := Blk.up bxx u18
    replace bxy := Blk.up bxy u18
    replace bxz := Blk.up bxz u18
    replace bx4 := Blk.up bx4 u18
    replace bx5 := Blk.up bx5 u18
    clear hU18 u18
    have s18 := (And.intro (tri bxx) (And.intro (tri bxy) (And.intro (tri bxz) (And.intro (tri bx4) (tri bx5)))))
    go_wp2_with fail
    refine hK.out _ _ s18 (fun _ => ?_)
    clear hK K'
    try simp only [Act.put, List.setIfInBounds_toArray, List.set_cons_zero, List.set_cons_succ]
    clear s17
    refine wpSched_call (i := 9) (by as_aux_lemma => rw [HO15.out]; simp only [List.append_eq, List.cons_append, List.nil_append, List.getElem?_toArray, List.getElem?_cons_succ, List.getElem?_cons_zero]; rfl) (by rfl) (fun K' hK => ?_)
    go_simp
    go_at_call 14
    refine (add_q Vx.out (V18.out.iv S18.out) (by omega)).mono ?_
    rintro e w19 ⟨v19, rfl, hQ19, hU19⟩
    obtain ⟨s19x, A19, n19, c19, B19, m19, d19, rfl⟩ := hQ19.shape
    obtain ⟨q19, hq19⟩ : ∃ q, q = x + q18 := ⟨_, rfl⟩
    rw [← hq19] at hQ19
    have S19 : Hid (qs q19 ≤ 29) := Lib.hid (by (rw [hq19]; have := qs_add x q18; have := Sx.out; have := S18.out; omega))
    have E19 := Lib.hid hq19
    clear hq19
    have V19 := Lib.hid hQ19
    clear hQ19
    have u19 : Up w18 w19 := hU19
    replace U := Up.trans U u19
    replace Vx := Lib.hid (Vx.out.up u19)
    replace Vy := Lib.hid (Vy.out.up u19)
    replace Vz := Lib.hid (Vz.out.up u19)
    replace V4 := Lib.hid (V4.out.up u19)
    replace V5 := Lib.hid (V5.out.up u19)
    replace V16 := Lib.hid (V16.out.up u19)
    replace V17 := Lib.hid (V17.out.up u19)
    replace V18 := Lib.hid (V18.out.up u19)
    replace bxx := Blk.up bxx u19
    replace bxy := Blk.up bxy u19
    replace bxz := Blk.up bxz u19
    replace bx4 := Blk.up bx4 u19
    replace bx5 := Blk.up bx5 u19
    clear hU19 u19
    have s19 := (And.intro (tri bxx) (And.intro (tri bxy) (And.intro (tri bxz) (And.intro (tri bx4) (tri bx5)))))
    go_wp2_with fail
    refine hK.out _ _ s19 (fun _ => ?_)
    clear hK K'
    try simp only [Act.put, List.setIfInBounds_toArray, List.set_cons_zero, List.set_cons_succ]
    clear s18
    refine wpSched_call (i := 10) (by as_aux_lemma => rw [HO15.out]; simp only [List.append_eq, List.cons_append, List.nil_append, List.getElem?_toArray, List.getElem?_cons_succ, List.getElem?_cons_zero]; rfl) (by rfl) (fun K' hK => ?_)
    go_simp
    go_at_call 11
    have T20 := sameRat_q V17.out V19.out (by have := S17.out; omega) (by have := S19.out; omega)
    rw [decide_eq_true (RationalField_eq2 E16.out E17.out E18.out E19.out )] at T20
    refine T20.mono ?_
    rintro e w20 ⟨rfl, hU20⟩
    clear T20
    have u20 : Up w19 w20 := hU20
    replace U := Up.trans U u20
    replace Vx := Lib.hid (Vx.out.up u20)
    replace Vy := Lib.hid (Vy.out.up u20)
    replace Vz := Lib.hid (Vz.out.up u20)
    replace V4 := Lib.hid (V4.out.up u20)
    replace V5 := Lib.hid (V5.out.up u20)
    replace V16 := Lib.hid (V16.out.up u20)
    replace V17 := Lib.hid (V17.out.up u20)
    replace V18 := Lib.hid (V18.out.up u20)
    replace V19 := Lib.hid (V19.out.up u20)
    replace bxx := Blk.up bxx u20
    replace bxy := Blk.up bxy u20
    replace bxz := Blk.up bxz u20
    replace bx4 := Blk.up bx4 u20
    replace bx5 := Blk.up bx5 u20
    clear hU20 u20
    have s20 := (And.intro (tri bxx) (And.intro (tri bxy) (And.intro (tri bxz) (And.intro (tri bx4) (tri bx5)))))
    go_wp2_with fail
    refine hK.out _ _ s20 (fun _ => ?_)
    clear hK K'
    try simp only [Act.put, List.setIfInBounds_toArray, List.set_cons_zero, List.set_cons_succ]
    clear s19
    refine wpSched_take (i := 11) (v := ?v15) (by as_aux_lemma => rw [HO15.out]; simp only [List.append_eq, List.cons_append, List.nil_append, List.getElem?_toArray, List.getElem?_cons_succ, List.getElem?_cons_zero]; rfl) (Or.inl ⟨(by rfl), ?y15⟩) ?r15
    case y15 => as_aux_lemma => intro wx hSx; (try dsimp only at hSx); go_simp; try with_reducible rfl
    try simp only [Act.put, List.setIfInBounds_toArray, List.set_cons_zero, List.set_cons_succ]
    refine wpSched_take (i := 12) (v := ?v16) (by as_aux_lemma => rw [HO15.out]; simp only [List.append_eq, List.cons_append, List.nil_append, List.getElem?_toArray, List.getElem?_cons_succ, List.getElem?_cons_zero]; rfl) (Or.inl ⟨(by as_aux_lemma => rw [HO15.out]; rfl), ?y16⟩) ?r16
    case y16 => as_aux_lemma => intro wx hSx; (try dsimp only at hSx); go_simp; try with_reducible rfl
    try simp only [Act.put, List.setIfInBounds_toArray, List.set_cons_zero, List.set_cons_succ]
    refine wpSched_take (i := 13) (v := ?v17) (by as_aux_lemma => rw [HO15.out]; simp only [List.append_eq, List.cons_append, List.nil_append, List.getElem?_toArray, List.getElem?_cons_succ, List.getElem?_cons_zero]; rfl) (Or.inl ⟨(by as_aux_lemma => rw [HO15.out]; rfl), ?y17⟩) ?r17
    case y17 => as_aux_lemma => intro wx hSx; (try dsimp only at hSx); go_simp; try with_reducible rfl
    try simp only [Act.put, List.setIfInBounds_toArray, List.set_cons_zero, List.set_cons_succ]
    refine wpSched_take (i := 15) (v := ?v18) (by as_aux_lemma => rw [HO15.out]; simp only [List.append_eq, List.cons_append, List.nil_append, List.getElem?_toArray, List.getElem?_cons_succ, List.getElem?_cons_zero]; rfl) (Or.inl ⟨(by as_aux_lemma => rw [HO15.out]; rfl), ?y18⟩) ?r18
    case y18 => as_aux_lemma => intro wx hSx; (try dsimp only at hSx); go_simp; try with_reducible rfl
    try simp only [Act.put, List.setIfInBounds_toArray, List.set_cons_zero, List.set_cons_succ]
    refine wpSched_take (i := 17) (v := ?v19) (by as_aux_lemma => rw [HO15.out]; simp only [List.append_eq, List.cons_append, List.nil_append, List.getElem?_toArray, List.getElem?_cons_succ, List.getElem?_cons_zero]; rfl) (Or.inl ⟨(by as_aux_lemma => rw [HO15.out]; rfl), ?y19⟩) ?r19
    case y19 => as_aux_lemma => intro wx hSx; (try dsimp only at hSx); go_simp; try with_reducible rfl
    try simp only [Act.put, List.setIfInBounds_toArray, List.set_cons_zero, List.set_cons_succ]
    refine wpSched_take (i := 18) (v := ?v20) (by as_aux_lemma => rw [HO15.out]; simp only [List.append_eq, List.cons_append, List.nil_append, List.getElem?_toArray, List.getElem?_cons_succ, List.getElem?_cons_zero]; rfl) (Or.inl ⟨(by as_aux_lemma => rw [HO15.out]; rfl), ?y20⟩) ?r20
    case y20 => as_aux_lemma => intro wx hSx; (try dsimp only at hSx); go_simp; try with_reducible rfl
    try simp only [Act.put, List.setIfInBounds_toArray, List.set_cons_zero, List.set_cons_succ]
    refine wpSched_take (i := 19) (v := ?v21) (by as_aux_lemma => rw [HO15.out]; simp only [List.append_eq, List.cons_append, List.nil_append, List.getElem?_toArray, List.getElem?_cons_succ, List.getElem?_cons_zero]; rfl) (Or.inl ⟨(by as_aux_lemma => rw [HO15.out]; rfl), ?y21⟩) ?r21
    case y21 => as_aux_lemma => intro wx hSx; (try dsimp only at hSx); go_simp; try with_reducible rfl
    try simp only [Act.put, List.setIfInBounds_toArray, List.set_cons_zero, List.set_cons_succ]
    clear V16 V17 V18 V19
    refine wpSched_call (i := 14) (by as_aux_lemma => rw [HO15.out]; simp only [List.append_eq, List.cons_append, List.nil_append, List.getElem?_toArray, List.getElem?_cons_succ, List.getElem?_cons_zero]; rfl) (by as_aux_lemma => rw [HO15.out]; rfl) (fun K' hK => ?_)
    go_simp
    go_at_call 12
    refine (mul_q Vx.out Vy.out (by omega)).mono ?_
    rintro e w21 ⟨v21, rfl, hQ21, hU21⟩
    obtain ⟨s21x, A21, n21, c21, B21, m21, d21, rfl⟩ := hQ21.shape
    obtain ⟨q21, hq21⟩ : ∃ q, q = x * y := ⟨_, rfl⟩
    rw [← hq21] at hQ21
    have S21 : Hid (qs q21 ≤ 18) := Lib.hid (by (rw [hq21]; have := qs_mul x y; have := Sx.out; have := Sy.out; omega))
    have E21 := Lib.hid hq21
    clear hq21
    have V21 := Lib.hid hQ21
    clear hQ21
    have u21 : Up w20 w21 := hU21
    replace U := Up.trans U u21
    replace Vx := Lib.hid (Vx.out.up u21)
    replace Vy := Lib.hid (Vy.out.up u21)
    replace Vz := Lib.hid (Vz.out.up u21)
    replace V4 := Lib.hid (V4.out.up u21)
    replace V5 := Lib.hid (V5.out.up u21)
    replace bxx := Blk.up bxx u21
    replace bxy := Blk.up bxy u21
    replace bxz := Blk.up bxz u21
    replace bx4 := Blk.up bx4 u21
    replace bx5 := Blk.up bx5 u21
    clear hU21 u21
    have s21 := (And.intro (tri bxx) (And.intro (tri bxy) (And.intro (tri bxz) (And.intro (tri bx4) (tri bx5)))))
    go_wp2_with fail
    refine hK.out _ _ s21 (fun _ => ?_)
    clear hK K'
    try simp only [Act.put, List.setIfInBounds_toArray, List.set_cons_zero, List.set_cons_succ]
    clear s20
    refine wpSched_call (i := 16) (by as_aux_lemma => rw [HO15.out]; simp only [List.append_eq, List.cons_append, List.nil_append, List.getElem?_toArray, List.getElem?_cons_succ, List.getElem?_cons_zero]; rfl) (by as_aux_lemma => rw [HO15.out]; rfl) (fun K' hK => ?_)
    go_simp
    go_at_call 12
    refine (mul_q (V21.out.iv S21.out) Vz.out (by omega)).mono ?_
    rintro e w22 ⟨v22, rfl, hQ22, hU22⟩
    obtain ⟨s22x, A22, n22, c22, B22, m22, d22, rfl⟩ := hQ22.shape
    obtain ⟨q22, hq22⟩ : ∃ q, q = q21 * z := ⟨_, rfl⟩
    rw [← hq22] at hQ22
    have S22 : Hid (qs q22 ≤ 27) := Lib.hid (by (rw [hq22]; have := qs_mul q21 z; have := S21.out; have := Sz.out; omega))
    have E22 := Lib.hid hq22
    clear hq22
    have V22 := Lib.hid hQ22
    clear hQ22
    have u22 : Up w21 w22 := hU22
    replace U := Up.trans U u22
    replace Vx := Lib.hid (Vx.out.up u22)
    replace Vy := Lib.hid (Vy.out.up u22)
    replace Vz := Lib.hid (Vz.out.up u22)
    replace V4 := Lib.hid (V4.out.up u22)
    replace V5 := Lib.hid (V5.out.up u22)
    replace V21 := Lib.hid (V21.out.up u22)
    replace bxx := Blk.up bxx u22
    replace bxy := Blk.up bxy u22
    replace bxz := Blk.up bxz u22
    replace bx4 := Blk.up bx4 u22
    replace bx5 := Blk.up bx5 u22
    clear hU22 u22
    have s22 := (And.intro (tri bxx) (And.intro (tri bxy) (And.intro (tri bxz) (And.intro (tri bx4) (tri bx5)))))
    go_wp2_with fail
    refine hK.out _ _ s22 (fun _ => ?_)
    clear hK K'
    try simp only [Act.put, List.setIfInBounds_toArray, List.set_cons_zero, List.set_cons_succ]
    clear s21
    refine wpSched_call (i := 20) (by as_aux_lemma => rw [HO15.out]; simp only [List.append_eq, List.cons_append, List.nil_append, List.getElem?_toArray, List.getElem?_cons_succ, List.getElem?_cons_zero]; rfl) (by as_aux_lemma => rw [HO15.out]; rfl) (fun K' hK => ?_)
    go_simp
    go_at_call 12
    refine (mul_q Vy.out Vz.out (by omega)).mono ?_
    rintro e w23 ⟨v23, rfl, hQ23, hU23⟩
    obtain ⟨s23x, A23, n23, c23, B23, m23, d23, rfl⟩ := hQ23.shape
    obtain ⟨q23, hq23⟩ : ∃ q, q = y * z := ⟨_, rfl⟩
    rw [← hq23] at hQ23
    have S23 : Hid (qs q23 ≤ 18) := Lib.hid (by (rw [hq23]; have := qs_mul y z; have := Sy.out; have := Sz.out; omega))
    have E23 := Lib.hid hq23
    clear hq23
    have V23 := Lib.hid hQ23
    clear hQ23
    have u23 : Up w22 w23 := hU23
    replace U := Up.trans U u23
    replace Vx := Lib.hid (Vx.out.up u23)
    replace Vy := Lib.hid (Vy.out.up u23)
    replace Vz := Lib.hid (Vz.out.up u23)
    replace V4 := Lib.hid (V4.out.up u23)
    replace V5 := Lib.hid (V5.out.up u23)
    replace V21 := Lib.hid (V21.out.up u23)
    replace V22 := Lib.hid (V22.out.up u23)
    replace bxx := Blk.up bxx u23
    replace bxy := Blk.up bxy u23
    replace bxz := Blk.up bxz u23
    replace bx4 := Blk.up bx4 u23
    replace bx5 := Blk.up bx5 u23
    clear hU23 u23
    have s23 := (And.intro (tri bxx) (And.intro (tri bxy) (And.intro (tri bxz) (And.intro (tri bx4) (tri bx5)))))
    go_wp2_with fail
    refine hK.out _ _ s23 (fun _ => ?_)
    clear hK K'
    try simp only [Act.put, List.setIfInBounds_toArray, List.set_cons_zero, List.set_cons_succ]
    clear s22
    refine wpSched_call (i := 21) (by as_aux_lemma => rw [HO15.out]; simp only [List.append_eq, List.cons_append, List.nil_append, List.getElem?_toArray, List.getElem?_cons_succ, List.getElem?_cons_zero]; rfl) (by as_aux_lemma => rw [HO15.out]; rfl) (fun K' hK => ?_)
    go_simp
    go_at_call 12
    refine (mul_q Vx.out (V23.out.iv S23.out) (by omega)).mono ?_
    rintro e w24 ⟨v24, rfl, hQ24, hU24⟩
    obtain ⟨s24x, A24, n24, c24, B24, m24, d24, rfl⟩ := hQ24.shape
    obtain ⟨q24, hq24⟩ : ∃ q, q = x * q23 := ⟨_, rfl⟩
    rw [← hq24] at hQ24
    have S24 : Hid (qs q24 ≤ 27) := Lib.hid (by (rw [hq24]; have := qs_mul x q23; have := Sx.out; have := S23.out; omega))
    have E24 := Lib.hid hq24
    clear hq24
    have V24 := Lib.hid hQ24
    clear hQ24
    have u24 : Up w23 w24 := hU24
    replace U := Up.trans U u24
    replace Vx := Lib.hid (Vx.out.up u24)
    replace Vy := Lib.hid (Vy.out.up u24)
    replace Vz := Lib.hid (Vz.out.up u24)
    replace V4 := Lib.hid (V4.out.up u24)
    replace V5 := Lib.hid (V5.out.up u24)
    replace V21 := Lib.hid (V21.out.up u24)
    replace V22 := Lib.hid (V22.out.up u24)
    replace V23 := Lib.hid (V23.out.up u24)
    replace bxx := Blk.up bxx u24
    replace bxy := Blk.up bxy u24
    replace bxz := Blk.up bxz u24
    replace bx4 := Blk.up bx4 u24
    replace bx5 := Blk.up bx5 u24
    clear hU24 u24
    have s24 := (And.intro (tri bxx) (And.intro (tri bxy) (And.intro (tri bxz) (And.intro (tri bx4) (tri bx5)))))
    go_wp2_with fail
    refine hK.out _ _ s24 (fun _ => ?_)
    clear hK K'
    try simp only [Act.put, List.setIfInBounds_toArray, List.set_cons_zero, List.set_cons_succ]
    clear s23
    refine wpSched_call (i := 22) (by as_aux_lemma => rw [HO15.out]; simp only [List.append_eq, List.cons_append, List.nil_append, List.getElem?_toArray, List.getElem?_cons_succ, List.getElem?_cons_zero]; rfl) (by as_aux_lemma => rw [HO15.out]; rfl) (fun K' hK => ?_)
    go_simp
    go_at_call 11
    have T25 := sameRat_q V22.out V24.out (by have := S22.out; omega) (by have := S24.out; omega)
    rw [decide_eq_true (RationalField_eq3 E21.out E22.out E23.out E24.out )] at T25
    refine T25.mono ?_
    rintro e w25 ⟨rfl, hU25⟩
    clear T25
    have u25 : Up w24 w25 := hU25
    replace U := Up.trans U u25
    replace Vx := Lib.hid (Vx.out.up u25)
    replace Vy := Lib.hid (Vy.out.up u25)
    replace Vz := Lib.hid (Vz.out.up u25)
    replace V4 := Lib.hid (V4.out.up u25)
    replace V5 := Lib.hid (V5.out.up u25)
    replace V21 := Lib.hid (V21.out.up u25)
    replace V22 := Lib.hid (V22.out.up u25)
    replace V23 := Lib.hid (V23.out.up u25)
    replace V24 := Lib.hid (V24.out.up u25)
    replace bxx := Blk.up bxx u25
    replace bxy := Blk.up bxy u25
    replace bxz := Blk.up bxz u25
    replace bx4 := Blk.up bx4 u25
    replace bx5 := Blk.up bx5 u25
    clear hU25 u25
    have s25 := (And.intro (tri bxx) (And.intro (tri bxy) (And.intro (tri bxz) (And.intro (tri bx4) (tri bx5)))))
    go_wp2_with fail
    refine hK.out _ _ s25 (fun _ => ?_)
    clear hK K'
    try simp only [Act.put, List.setIfInBounds_toArray, List.set_cons_zero, List.set_cons_succ]
    clear s24
    refine wpSched_take (i := 23) (v := ?v22) (by as_aux_lemma => rw [HO15.out]; simp only [List.append_eq, List.cons_append, List.nil_append, List.getElem?_toArray, List.getElem?_cons_succ, List.getElem?_cons_zero]; rfl) (Or.inl ⟨(by rfl), ?y22⟩) ?r22
    case y22 => as_aux_lemma => intro wx hSx; (try dsimp only at hSx); go_simp; try with_reducible rfl
    try simp only [Act.put, List.setIfInBounds_toArray, List.set_cons_zero, List.set_cons_succ]
    refine wpSched_take (i := 24) (v := ?v23) (by as_aux_lemma => rw [HO15.out]; simp only [List.append_eq, List.cons_append, List.nil_append, List.getElem?_toArray, List.getElem?_cons_succ, List.getElem?_cons_zero]; rfl) (Or.inl ⟨(by rfl), ?y23⟩) ?r23
    case y23 => as_aux_lemma => intro wx hSx; (try dsimp only at hSx); go_simp; try with_reducible rfl
    try simp only [Act.put, List.setIfInBounds_toArray, List.set_cons_zero, List.set_cons_succ]
    refine wpSched_take (i := 25) (v := ?v24) (by as_aux_lemma => rw [HO15.out]; simp only [List.append_eq, List.cons_append, List.nil_append, List.getElem?_toArray, List.getElem?_cons_succ, List.getElem?_cons_zero]; rfl) (Or.inl ⟨(by as_aux_lemma => rw [HO15.out]; rfl), ?y24⟩) ?r24
    case y24 => as_aux_lemma => intro wx hSx; (try dsimp only at hSx); go_simp; try with_reducible rfl
    try simp only [Act.put, List.setIfInBounds_toArray, List.set_cons_zero, List.set_cons_succ]
    refine wpSched_take (i := 26) (v := ?v25) (by as_aux_lemma => rw [HO15.out]; simp only [List.append_eq, List.cons_append, List.nil_append, List.getElem?_toArray, List.getElem?_cons_succ, List.getElem?_cons_zero]; rfl) (Or.inl ⟨(by as_aux_lemma => rw [HO15.out]; rfl), ?y25⟩) ?r25
    case y25 => as_aux_lemma => intro wx hSx; (try dsimp only at hSx); go_simp; try with_reducible rfl
    try simp only [Act.put, List.setIfInBounds_toArray, List.set_cons_zero, List.set_cons_succ]
    refine wpSched_take (i := 28) (v := ?v26) (by as_aux_lemma => rw [HO15.out]; simp only [List.append_eq, List.cons_append, List.nil_append, List.getElem?_toArray, List.getElem?_cons_succ, List.getElem?_cons_zero]; rfl) (Or.inl ⟨(by as_aux_lemma => rw [HO15.out]; rfl), ?y26⟩) ?r26
    case y26 => as_aux_lemma => intro wx hSx; (try dsimp only at hSx); go_simp; try with_reducible rfl
    try simp only [Act.put, List.setIfInBounds_toArray, List.set_cons_zero, List.set_cons_succ]
    refine wpSched_take (i := 29) (v := ?v27) (by as_aux_lemma => rw [HO15.out]; simp only [List.append_eq, List.cons_append, List.nil_append, List.getElem?_toArray, List.getElem?_cons_succ, List.getElem?_cons_zero]; rfl) (Or.inl ⟨(by as_aux_lemma => rw [HO15.out]; rfl), ?y27⟩) ?r27
    case y27 => as_aux_lemma => intro wx hSx; (try dsimp only at hSx); go_simp; try with_reducible rfl
    try simp only [Act.put, List.setIfInBounds_toArray, List.set_cons_zero, List.set_cons_succ]
    clear V21 V22 V23 V24
    refine wpSched_call (i := 27) (by as_aux_lemma => rw [HO15.out]; simp only [List.append_eq, List.cons_append, List.nil_append, List.getElem?_toArray, List.getElem?_cons_succ, List.getElem?_cons_zero]; rfl) (by as_aux_lemma => rw [HO15.out]; rfl) (fun K' hK => ?_)
    go_simp
    go_at_call 14
    refine (add_q Vx.out Vy.out (by omega)).mono ?_
    rintro e w26 ⟨v26, rfl, hQ26, hU26⟩
    obtain ⟨s26x, A26, n26, c26, B26, m26, d26, rfl⟩ := hQ26.shape
    obtain ⟨q26, hq26⟩ : ∃ q, q = x + y := ⟨_, rfl⟩
    rw [← hq26] at hQ26
    have S26 : Hid (qs q26 ≤ 19) := Lib.hid (by (rw [hq26]; have := qs_add x y; have := Sx.out; have := Sy.out; omega))
    have E26 := Lib.hid hq26
    clear hq26
    have V26 := Lib.hid hQ26
    clear hQ26
    have u26 : Up w25 w26 := hU26
    replace U := Up.trans U u26
    replace Vx := Lib.hid (Vx.out.up u26)
    replace Vy := Lib.hid (Vy.out.up u26)
    replace Vz := Lib.hid (Vz.out.up u26)
    replace V4 := Lib.hid (V4.out.up u26)
    replace V5 := Lib.hid (V5.out.up u26)
    replace bxx := Blk.up bxx u26
    replace bxy := Blk.up bxy u26
    replace bxz := Blk.up bxz u26
    replace bx4 := Blk.up bx4 u26
    replace bx5 := Blk.up bx5 u26
    clear hU26 u26
    have s26 := (And.intro (tri bxx) (And.intro (tri bxy) (And.intro (tri bxz) (And.intro (tri bx4) (tri bx5)))))
    go_wp2_with fail
    refine hK.out _ _ s26 (fun _ => ?_)
    clear hK K'
    try simp only [Act.put, List.setIfInBounds_toArray, List.set_cons_zero, List.set_cons_succ]
    clear s25
    refine wpSched_call (i := 30) (by as_aux_lemma => rw [HO15.out]; simp only [List.append_eq, List.cons_append, List.nil_append, List.getElem?_toArray, List.getElem?_cons_succ, List.getElem?_cons_zero]; rfl) (by as_aux_lemma => rw [HO15.out]; rfl) (fun K' hK => ?_)
    go_simp
    go_at_call 14
    refine (add_q Vy.out Vx.out (by omega)).mono ?_
    rintro e w27 ⟨v27, rfl, hQ27, hU27⟩
    obtain ⟨s27x, A27, n27, c27, B27, m27, d27, rfl⟩ := hQ27.shape
    obtain ⟨q27, hq27⟩ : ∃ q, q = y + x := ⟨_, rfl⟩
    rw [← hq27] at hQ27
    have S27 : Hid (qs q27 ≤ 19) := Lib.hid (by (rw [hq27]; have := qs_add y x; have := Sy.out; have := Sx.out; omega))
    have E27 := Lib.hid hq27
    clear hq27
    have V27 := Lib.hid hQ27
    clear hQ27
    have u27 : Up w26 w27 := hU27
    replace U := Up.trans U u27
    replace Vx := Lib.hid (Vx.out.up u27)
    replace Vy := Lib.hid (Vy.out.up u27)
    replace Vz := Lib.hid (Vz.out.up u27)
    replace V4 := Lib.hid (V4.out.up u27)
    replace V5 := Lib.hid (V5.out.up u27)
    replace V26 := Lib.hid (V26.out.up u27)
    replace bxx := Blk.up bxx u27
    replace bxy := Blk.up bxy u27
    replace bxz := Blk.up bxz u27
    replace bx4 := Blk.up bx4 u27
    replace bx5 := Blk.up bx5 u27
    clear hU27 u27
    have s27 := (And.intro (tri bxx) (And.intro (tri bxy) (And.intro (tri bxz) (And.intro (tri bx4) (tri bx5)))))
    go_wp2_with fail
    refine hK.out _ _ s27 (fun _ => ?_)
    clear hK K'
    try simp only [Act.put, List.setIfInBounds_toArray, List.set_cons_zero, List.set_cons_succ]
    clear s26
    refine wpSched_call (i := 31) (by as_aux_lemma => rw [HO15.out]; simp only [List.append_eq, List.cons_append, List.nil_append, List.getElem?_toArray, List.getElem?_cons_succ, List.getElem?_cons_zero]; rfl) (by as_aux_lemma => rw [HO15.out]; rfl) (fun K' hK => ?_)
    go_simp
    go_at_call 11
    have T28 := sameRat_q V26.out V27.out (by have := S26.out; omega) (by have := S27.out; omega)
    rw [decide_eq_true (RationalField_eq4 E26.out E27.out )] at T28
    refine T28.mono ?_
    rintro e w28 ⟨rfl, hU28⟩
    clear T28
    have u28 : Up w27 w28 := hU28
    replace U := Up.trans U u28
    replace Vx := Lib.hid (Vx.out.up u28)
    replace Vy := Lib.hid (Vy.out.up u28)
    replace Vz := Lib.hid (Vz.out.up u28)
    replace V4 := Lib.hid (V4.out.up u28)
    replace V5 := Lib.hid (V5.out.up u28)
    replace V26 := Lib.hid (V26.out.up u28)
    replace V27 := Lib.hid (V27.out.up u28)
    replace bxx := Blk.up bxx u28
    replace bxy := Blk.up bxy u28
    replace bxz := Blk.up bxz u28
    replace bx4 := Blk.up bx4 u28
    replace bx5 := Blk.up bx5 u28
    clear hU28 u28
    have s28 := (And.intro (tri bxx) (And.intro (tri bxy) (And.intro (tri bxz) (And.intro (tri bx4) (tri bx5)))))
    go_wp2_with fail
    refine hK.out _ _ s28 (fun _ => ?_)
    clear hK K'
    try simp only [Act.put, List.setIfInBounds_toArray, List.set_cons_zero, List.set_cons_succ]
    clear s27
    refine wpSched_take (i := 32) (v := ?v28) (by as_aux_lemma => rw [HO15.out]; simp only [List.append_eq, List.cons_append, List.nil_append, List.getElem?_toArray, List.getElem?_cons_succ, List.getElem?_cons_zero]; rfl) (Or.inl ⟨(by rfl), ?y28⟩) ?r28
    case y28 => as_aux_lemma => intro wx hSx; (try dsimp only at hSx); go_simp; try with_reducible rfl
    try simp only [Act.put, List.setIfInBounds_toArray, List.set_cons_zero, List.set_cons_succ]
    refine wpSched_take (i := 33) (v := ?v29) (by as_aux_lemma => rw [HO15.out]; simp only [List.append_eq, List.cons_append, List.nil_append, List.getElem?_toArray, List.getElem?_cons_succ, List.getElem?_cons_zero]; rfl) (Or.inl ⟨(by rfl), ?y29⟩) ?r29
    case y29 => as_aux_lemma => intro wx hSx; (try dsimp only at hSx); go_simp; try with_reducible rfl
    try simp only [Act.put, List.setIfInBounds_toArray, List.set_cons_zero, List.set_cons_succ]
    refine wpSched_take (i := 34) (v := ?v30) (by as_aux_lemma => rw [HO15.out]; simp only [List.append_eq, List.cons_append, List.nil_append, List.getElem?_toArray, List.getElem?_cons_succ, List.getElem?_cons_zero]; rfl) (Or.inl ⟨(by as_aux_lemma => rw [HO15.out]; rfl), ?y30⟩) ?r30
    case y30 => as_aux_lemma => intro wx hSx; (try dsimp only at hSx); go_simp; try with_reducible rfl
    try simp only [Act.put, List.setIfInBounds_toArray, List.set_cons_zero, List.set_cons_succ]
    refine wpSched_take (i := 35) (v := ?v31) (by as_aux_lemma => rw [HO15.out]; simp only [List.append_eq, List.cons_append, List.nil_append, List.getElem?_toArray, List.getElem?_cons_succ, List.getElem?_cons_zero]; rfl) (Or.inl ⟨(by as_aux_lemma => rw [HO15.out]; rfl), ?y31⟩) ?r31
    case y31 => as_aux_lemma => intro wx hSx; (try dsimp only at hSx); go_simp; try with_reducible rfl
    try simp only [Act.put, List.setIfInBounds_toArray, List.set_cons_zero, List.set_cons_succ]
    refine wpSched_take (i := 37) (v := ?v32) (by as_aux_lemma => rw [HO15.out]; simp only [List.append_eq, List.cons_append, List.nil_append, List.getElem?_toArray, List.getElem?_cons_succ, List.getElem?_cons_zero]; rfl) (Or.inl ⟨(by as_aux_lemma => rw [HO15.out]; rfl), ?y32⟩) ?r32
    case y32 => as_aux_lemma => intro wx hSx; (try dsimp only at hSx); go_simp; try with_reducible rfl
    try simp only [Act.put, List.setIfInBounds_toArray, List.set_cons_zero, List.set_cons_succ]
    refine wpSched_take (i := 38) (v := ?v33) (by as_aux_lemma => rw [HO15.out]; simp only [List.append_eq, List.cons_append, List.nil_append, List.getElem?_toArray, List.getElem?_cons_succ, List.getElem?_cons_zero]; rfl) (Or.inl ⟨(by as_aux_lemma => rw [HO15.out]; rfl), ?y33⟩) ?r33
    case y33 => as_aux_lemma => intro wx hSx; (try dsimp only at hSx); go_simp; try with_reducible rfl
    try simp only [Act.put, List.setIfInBounds_toArray, List.set_cons_zero, List.set_cons_succ]
    clear V26 V27
    refine wpSched_call (i := 36) (by as_aux_lemma => rw [HO15.out]; simp only [List.append_eq, List.cons_append, List.nil_append, List.getElem?_toArray, List.getElem?_cons_succ, List.getElem?_cons_zero]; rfl) (by as_aux_lemma => rw [HO15.out]; rfl) (fun K' hK => ?_)
    go_simp
    go_at_call 12
    refine (mul_q Vx.out Vy.out (by omega)).mono ?_
    rintro e w29 ⟨v29, rfl, hQ29, hU29⟩
    obtain ⟨s29x, A29, n29, c29, B29, m29, d29, rfl⟩ := hQ29.shape
    obtain ⟨q29, hq29⟩ : ∃ q, q = x * y := ⟨_, rfl⟩
    rw [← hq29] at hQ29
    have S29 : Hid (qs q29 ≤ 18) := Lib.hid (by (rw [hq29]; have := qs_mul x y; have := Sx.out; have := Sy.out; omega))
    have E29 := Lib.hid hq29
    clear hq29
    have V29 := Lib.hid hQ29
    clear hQ29
    have u29 : Up w28 w29 := hU29
    replace U := Up.trans U u29
    replace Vx := Lib.hid (Vx.out.up u29)
    replace Vy := Lib.hid (Vy.out.up u29)
    replace Vz := Lib.hid (Vz.out.up u29)
    replace V4 := Lib.hid (V4.out.up u29)
    replace V5 := Lib.hid (V5.out.up u29)
    replace bxx := Blk.up bxx u29
    replace bxy := Blk.up bxy u29
    replace bxz := Blk.up bxz u29
    replace bx4 := Blk.up bx4 u29
    replace bx5 := Blk.up bx5 u29
    clear hU29 u29
    have s29 := (And.intro (tri bxx) (And.intro (tri bxy) (And.intro (tri bxz) (And.intro (tri bx4) (tri bx5)))))
    go_wp2_with fail
    refine hK.out _ _ s29 (fun _ => ?_)
    clear hK K'
    try simp only [Act.put, List.setIfInBounds_toArray, List.set_cons_zero, List.set_cons_succ]
    clear s28
    refine wpSched_call (i := 39) (by as_aux_lemma => rw [HO15.out]; simp only [List.append_eq, List.cons_append, List.nil_append, List.getElem?_toArray, List.getElem?_cons_succ, List.getElem?_cons_zero]; rfl) (by as_aux_lemma => rw [HO15.out]; rfl) (fun K' hK => ?_)
    go_simp
    go_at_call 12
    refine (mul_q Vy.out Vx.out (by omega)).mono ?_
    rintro e w30 ⟨v30, rfl, hQ30, hU30⟩
    obtain ⟨s30x, A30, n30, c30, B30, m30, d30, rfl⟩ := hQ30.shape
    obtain ⟨q30, hq30⟩ : ∃ q, q = y * x := ⟨_, rfl⟩
    rw [← hq30] at hQ30
    have S30 : Hid (qs q30 ≤ 18) := Lib.hid (by (rw [hq30]; have := qs_mul y x; have := Sy.out; have := Sx.out; omega))
    have E30 := Lib.hid hq30
    clear hq30
    have V30 := Lib.hid hQ30
    clear hQ30
    have u30 : Up w29 w30 := hU30
    replace U := Up.trans U u30
    replace Vx := Lib.hid (Vx.out.up u30)
    replace Vy := Lib.hid (Vy.out.up u30)
    replace Vz := Lib.hid (Vz.out.up u30)
    replace V4 := Lib.hid (V4.out.up u30)
    replace V5 := Lib.hid (V5.out.up u30)
    replace V29 := Lib.hid (V29.out.up u30)
    replace bxx := Blk.up bxx u30
    replace bxy := Blk.up bxy u30
    replace bxz := Blk.up bxz u30
    replace bx4 := Blk.up bx4 u30
    replace bx5 := Blk.up bx5 u30
    clear hU30 u30
    have s30 := (And.intro (tri bxx) (And.intro (tri bxy) (And.intro (tri bxz) (And.intro (tri bx4) (tri bx5)))))
    go_wp2_with fail
    refine hK.out _ _ s30 (fun _ => ?_)
    clear hK K'
    try simp only [Act.put, List.setIfInBounds_toArray, List.set_cons_zero, List.set_cons_succ]
    clear s29
    refine wpSched_call (i := 40) (by as_aux_lemma => rw [HO15.out]; simp only [List.append_eq, List.cons_append, List.nil_append, List.getElem?_toArray, List.getElem?_cons_succ, List.getElem?_cons_zero]; rfl) (by as_aux_lemma => rw [HO15.out]; rfl) (fun K' hK => ?_)
    go_simp
    go_at_call 11
    have T31 := sameRat_q V29.out V30.out (by have := S29.out; omega) (by have := S30.out; omega)
    rw [decide_eq_true (RationalField_eq5 E29.out E30.out )] at T31
    refine T31.mono ?_
    rintro e w31 ⟨rfl, hU31⟩
    clear T31
    have u31 : Up w30 w31 := hU31
    replace U := Up.trans U u31
    replace Vx := Lib.hid (Vx.out.up u31)
    replace Vy := Lib.hid (Vy.out.up u31)
    replace Vz := Lib.hid (Vz.out.up u31)
    replace V4 := Lib.hid (V4.out.up u31)
    replace V5 := Lib.hid (V5.out.up u31)
    replace V29 := Lib.hid (V29.out.up u31)
    replace V30 := Lib.hid (V30.out.up u31)
    replace bxx := Blk.up bxx u31
    replace bxy := Blk.up bxy u31
    replace bxz := Blk.up bxz u31
    replace bx4 := Blk.up bx4 u31
    replace bx5 := Blk.up bx5 u31
    clear hU31 u31
    have s31 := (And.intro (tri bxx) (And.intro (tri bxy) (And.intro (tri bxz) (And.intro (tri bx4) (tri bx5)))))
    go_wp2_with fail
    refine hK.out _ _ s31 (fun _ => ?_)
    clear hK K'
    try simp only [Act.put, List.setIfInBounds_toArray, List.set_cons_zero, List.set_cons_succ]
    clear s30
    refine wpSched_take (i := 41) (v := ?v34) (by as_aux_lemma => rw [HO15.out]; simp only [List.append_eq, List.cons_append, List.nil_append, List.getElem?_toArray, List.getElem?_cons_succ, List.getElem?_cons_zero]; rfl) (Or.inl ⟨(by rfl), ?y34⟩) ?r34
    case y34 => as_aux_lemma => intro wx hSx; (try dsimp only at hSx); go_simp; try with_reducible rfl
    try simp only [Act.put, List.setIfInBounds_toArray, List.set_cons_zero, List.set_cons_succ]
    refine wpSched_take (i := 42) (v := ?v35) (by as_aux_lemma => rw [HO15.out]; simp only [List.append_eq, List.cons_append, List.nil_append, List.getElem?_toArray, List.getElem?_cons_succ, List.getElem?_cons_zero]; rfl) (Or.inl ⟨(by rfl), ?y35⟩) ?r35
    case y35 => as_aux_lemma => intro wx hSx; (try dsimp only at hSx); go_simp; try with_reducible rfl
    try simp only [Act.put, List.setIfInBounds_toArray, List.set_cons_zero, List.set_cons_succ]
    refine wpSched_take (i := 43) (v := ?v36) (by as_aux_lemma => rw [HO15.out]; simp only [List.append_eq, List.cons_append, List.nil_append, List.getElem?_toArray, List.getElem?_cons_succ, List.getElem?_cons_zero]; rfl) (Or.inl ⟨(by as_aux_lemma => rw [HO15.out]; rfl), ?y36⟩) ?r36
    case y36 => as_aux_lemma => intro wx hSx; (try dsimp only at hSx); go_simp; try with_reducible rfl
    try simp only [Act.put, List.setIfInBounds_toArray, List.set_cons_zero, List.set_cons_succ]
    refine wpSched_take (i := 44) (v := ?v37) (by as_aux_lemma => rw [HO15.out]; simp only [List.append_eq, List.cons_append, List.nil_append, List.getElem?_toArray, List.getElem?_cons_succ, List.getElem?_cons_zero]; rfl) (Or.inl ⟨(by as_aux_lemma => rw [HO15.out]; rfl), ?y37⟩) ?r37
    case y37 => as_aux_lemma => intro wx hSx; (try dsimp only at hSx); go_simp; try with_reducible rfl
    try simp only [Act.put, List.setIfInBounds_toArray, List.set_cons_zero, List.set_cons_succ]
    refine wpSched_take (i := 45) (v := ?v38) (by as_aux_lemma => rw [HO15.out]; simp only [List.append_eq, List.cons_append, List.nil_append, List.getElem?_toArray, List.getElem?_cons_succ, List.getElem?_cons_zero]; rfl) (Or.inl ⟨(by as_aux_lemma => rw [HO15.out]; rfl), ?y38⟩) ?r38
    case y38 => as_aux_lemma => intro wx hSx; (try dsimp only at hSx); go_simp; try with_reducible rfl
    try simp only [Act.put, List.setIfInBounds_toArray, List.set_cons_zero, List.set_cons_succ]
    refine wpSched_take (i := 48) (v := ?v39) (by as_aux_lemma => rw [HO15.out]; simp only [List.append_eq, List.cons_append, List.nil_append, List.getElem?_toArray, List.getElem?_cons_succ, List.getElem?_cons_zero]; rfl) (Or.inl ⟨(by as_aux_lemma => rw [HO15.out]; rfl), ?y39⟩) ?r39
    case y39 => as_aux_lemma => intro wx hSx; (try dsimp only at hSx); go_simp; try with_reducible rfl
    try simp only [Act.put, List.setIfInBounds_toArray, List.set_cons_zero, List.set_cons_succ]
    refine wpSched_take (i := 49) (v := ?v40) (by as_aux_lemma => rw [HO15.out]; simp only [List.append_eq, List.cons_append, List.nil_append, List.getElem?_toArray, List.getElem?_cons_succ, List.getElem?_cons_zero]; rfl) (Or.inl ⟨(by as_aux_lemma => rw [HO15.out]; rfl), ?y40⟩) ?r40
    case y40 => as_aux_lemma => intro wx hSx; (try dsimp only at hSx); go_simp; try with_reducible rfl
    try simp only [Act.put, List.setIfInBounds_toArray, List.set_cons_zero, List.set_cons_succ]
    refine wpSched_take (i := 51) (v := ?v41) (by as_aux_lemma => rw [HO15.out]; simp only [List.append_eq, List.cons_append, List.nil_append, List.getElem?_toArray, List.getElem?_cons_succ, List.getElem?_cons_zero]; rfl) (Or.inl ⟨(by as_aux_lemma => rw [HO15.out]; rfl), ?y41⟩) ?r41
    case y41 => as_aux_lemma => intro wx hSx; (try dsimp only at hSx); go_simp; try with_reducible rfl
    try simp only [Act.put, List.setIfInBounds_toArray, List.set_cons_zero, List.set_cons_succ]
    refine wpSched_take (i := 52) (v := ?v42) (by as_aux_lemma => rw [HO15.out]; simp only [List.append_eq, List.cons_append, List.nil_append, List.getElem?_toArray, List.getElem?_cons_succ, List.getElem?_cons_zero]; rfl) (Or.inl ⟨(by as_aux_lemma => rw [HO15.out]; rfl), ?y42⟩) ?r42
    case y42 => as_aux_lemma => intro wx hSx; (try dsimp only at hSx); go_simp; try with_reducible rfl
    try simp only [Act.put, List.setIfInBounds_toArray, List.set_cons_zero, List.set_cons_succ]
    clear V29 V30
    refine wpSched_call (i := 46) (by as_aux_lemma => rw [HO15.out]; simp only [List.append_eq, List.cons_append, List.nil_append, List.getElem?_toArray, List.getElem?_cons_succ, List.getElem?_cons_zero]; rfl) (by as_aux_lemma => rw [HO15.out]; rfl) (fun K' hK => ?_)
    go_simp
    go_at_call 14
    refine (add_q Vy.out Vz.out (by omega)).mono ?_
    rintro e w32 ⟨v32, rfl, hQ32, hU32⟩
    obtain ⟨s32x, A32, n32, c32, B32, m32, d32, rfl⟩ := hQ32.shape
    obtain ⟨q32, hq32⟩ : ∃ q, q = y + z := ⟨_, rfl⟩
    rw [← hq32] at hQ32
    have S32 : Hid (qs q32 ≤ 19) := Lib.hid (by (rw [hq32]; have := qs_add y z; have := Sy.out; have := Sz.out; omega))
    have E32 := Lib.hid hq32
    clear hq32
    have V32 := Lib.hid hQ32
    clear hQ32
    have u32 : Up w31 w32 := hU32
    replace U := Up.trans U u32
    replace Vx := Lib.hid (Vx.out.up u32)
    replace Vy := Lib.hid (Vy.out.up u32)
    replace Vz := Lib.hid (Vz.out.up u32)
    replace V4 := Lib.hid (V4.out.up u32)
    replace V5 := Lib.hid (V5.out.up u32)
    replace bxx := Blk.up bxx u32
    replace bxy := Blk.up bxy u32
    replace bxz := Blk.up bxz u32
    replace bx4 := Blk.up bx4 u32
    replace bx5 := Blk.up bx5 u32
    clear hU32 u32
    have s32 := (And.intro (tri bxx) (And.intro (tri bxy) (And.intro (tri bxz) (And.intro (tri bx4) (tri bx5)))))
    go_wp2_with fail
    refine hK.out _ _ s32 (fun _ => ?_)
    clear hK K'
    try simp only [Act.put, List.setIfInBounds_toArray, List.set_cons_zero, List.set_cons_succ]
    clear s31
    refine wpSched_call (i := 47) (by as_aux_lemma => rw [HO15.out]; simp only [List.append_eq, List.cons_append, List.nil_append, List.getElem?_toArray, List.getElem?_cons_succ, List.getElem?_cons_zero]; rfl) (by as_aux_lemma => rw [HO15.out]; rfl) (fun K' hK => ?_)
    go_simp
    go_at_call 12
    refine (mul_q Vx.out (V32.out.iv S32.out) (by omega)).mono ?_
    rintro e w33 ⟨v33, rfl, hQ33, hU33⟩
    obtain ⟨s33x, A33, n33, c33, B33, m33, d33, rfl⟩ := hQ33.shape
    obtain ⟨q33, hq33⟩ : ∃ q, q = x * q32 := ⟨_, rfl⟩
    rw [← hq33] at hQ33
    have S33 : Hid (qs q33 ≤ 28) := Lib.hid (by (rw [hq33]; have := qs_mul x q32; have := Sx.out; have := S32.out; omega))
    have E33 := Lib.hid hq33
    clear hq33
    have V33 := Lib.hid hQ33
    clear hQ33
    have u33 : Up w32 w33 := hU33
    replace U := Up.trans U u33
    replace Vx := Lib.hid (Vx.out.up u33)
    replace Vy := Lib.hid (Vy.out.up u33)
    replace Vz := Lib.hid (Vz.out.up u33)
    replace V4 := Lib.hid (V4.out.up u33)
    replace V5 := Lib.hid (V5.out.up u33)
    replace V32 := Lib.hid (V32.out.up u33)
    replace bxx := Blk.up bxx u33
    replace bxy := Blk.up bxy u33
    replace bxz := Blk.up bxz u33
    replace bx4 := Blk.up bx4 u33
    replace bx5 := Blk.up bx5 u33
    clear hU33 u33
    have s33 := (And.intro (tri bxx) (And.intro (tri bxy) (And.intro (tri bxz) (And.intro (tri bx4) (tri bx5)))))
    go_wp2_with fail
    refine hK.out _ _ s33 (fun _ => ?_)
    clear hK K'
    try simp only [Act.put, List.setIfInBounds_toArray, List.set_cons_zero, List.set_cons_succ]
    clear s32
    refine wpSched_call (i := 50) (by as_aux_lemma => rw [HO15.out]; simp only [List.append_eq, List.cons_append, List.nil_append, List.getElem?_toArray, List.getElem?_cons_succ, List.getElem?_cons_zero]; rfl) (by as_aux_lemma => rw [HO15.out]; rfl) (fun K' hK => ?_)
    go_simp
    go_at_call 12
    refine (mul_q Vx.out Vy.out (by omega)).mono ?_
    rintro e w34 ⟨v34, rfl, hQ34, hU34⟩
    obtain ⟨s34x, A34, n34, c34, B34, m34, d34, rfl⟩ := hQ34.shape
    obtain ⟨q34, hq34⟩ : ∃ q, q = x * y := ⟨_, rfl⟩
    rw [← hq34] at hQ34
    have S34 : Hid (qs q34 ≤ 18) := Lib.hid (by (rw [hq34]; have := qs_mul x y; have := Sx.out; have := Sy.out; omega))
    have E34 := Lib.hid hq34
    clear hq34
    have V34 := Lib.hid hQ34
    clear hQ34
    have u34 : Up w33 w34 := hU34
    replace U := Up.trans U u34
    replace Vx := Lib.hid (Vx.out.up u34)
    replace Vy := Lib.hid (Vy.out.up u34)
    replace Vz := Lib.hid (Vz.out.up u34)
    replace V4 := Lib.hid (V4.out.up u34)
    replace V5 := Lib.hid (V5.out.up u34)
    replace V32 := Lib.hid (V32.out.up u34)
    replace V33 := Lib.hid (V33.out.up u34)
    replace bxx := Blk.up bxx u34
    replace bxy := Blk.up bxy u34
    replace bxz := Blk.up bxz u34
    replace bx4 := Blk.up bx4 u34
    replace bx5 := Blk.up bx5 u34
    clear hU34 u34
    have s34 := (And.intro (tri bxx) (And.intro (tri bxy) (And.intro (tri bxz) (And.intro (tri bx4) (tri bx5)))))
    go_wp2_with fail
    refine hK.out _ _ s34 (fun _ => ?_)
    clear hK K'
    try simp only [Act.put, List.setIfInBounds_toArray, List.set_cons_zero, List.set_cons_succ]
    clear s33
    refine wpSched_call (i := 53) (by as_aux_lemma => rw [HO15.out]; simp only [List.append_eq, List.cons_append, List.nil_append, List.getElem?_toArray, List.getElem?_cons_succ, List.getElem?_cons_zero]; rfl) (by as_aux_lemma => rw [HO15.out]; rfl) (fun K' hK => ?_)
    go_simp
    go_at_call 12
    refine (mul_q Vx.out Vz.out (by omega)).mono ?_
    rintro e w35 ⟨v35, rfl, hQ35, hU35⟩
    obtain ⟨s35x, A35, n35, c35, B35, m35, d35, rfl⟩ := hQ35.shape
    obtain ⟨q35, hq35⟩ : ∃ q, q = x * z := ⟨_, rfl⟩
    rw [← hq35] at hQ35
    have S35 : Hid (qs q35 ≤ 18) := Lib.hid (by (rw [hq35]; have := qs_mul x z; have := Sx.out; have := Sz.out; omega))
    have E35 := Lib.hid hq35
    clear hq35
    have V35 := Lib.hid hQ35
    clear hQ35
    have u35 : Up w34 w35 := hU35
    replace U := Up.trans U u35
    replace Vx := Lib.hid (Vx.out.up u35)
    replace Vy := Lib.hid (Vy.out.up u35)
    replace Vz := Lib.hid (Vz.out.up u35)
    replace V4 := Lib.hid (V4.out.up u35)
    replace V5 := Lib.hid (V5.out.up u35)
    replace V32 := Lib.hid (V32.out.up u35)
    replace V33 := Lib.hid (V33.out.up u35)
    replace V34 := Lib.hid (V34.out.up u35)
    replace bxx := Blk.up bxx u35
    replace bxy := Blk.up bxy u35
    replace bxz := Blk.up bxz u35
    replace bx4 := Blk.up bx4 u35
    replace bx5 := Blk.up bx5 u35
    clear hU35 u35
    have s35 := (And.intro (tri bxx) (And.intro (tri bxy) (And.intro (tri bxz) (And.intro (tri bx4) (tri bx5)))))
    go_wp2_with fail
    refine hK.out _ _ s35 (fun _ => ?_)
    clear hK K'
    try simp only [Act.put, List.setIfInBounds_toArray, List.set_cons_zero, List.set_cons_succ]
    clear s34
    refine wpSched_call (i := 54) (by as_aux_lemma => rw [HO15.out]; simp only [List.append_eq, List.cons_append, List.nil_append, List.getElem?_toArray, List.getElem?_cons_succ, List.getElem?_cons_zero]; rfl) (by as_aux_lemma => rw [HO15.out]; rfl) (fun K' hK => ?_)
    go_simp
    go_at_call 14
    refine (add_q (V34.out.iv S34.out) (V35.out.iv S35.out) (by omega)).mono ?_
    rintro e w36 ⟨v36, rfl, hQ36, hU36⟩
    obtain ⟨s36x, A36, n36, c36, B36, m36, d36, rfl⟩ := hQ36.shape
    obtain ⟨q36, hq36⟩ : ∃ q, q = q34 + q35 := ⟨_, rfl⟩
    rw [← hq36] at hQ36
    have S36 : Hid (qs q36 ≤ 37) := Lib.hid (by (rw [hq36]; have := qs_add q34 q35; have := S34.out; have := S35.out; omega))
    have E36 := Lib.hid hq36
    clear hq36
    have V36 := Lib.hid hQ36
    clear hQ36
    have u36 : Up w35 w36 := hU36
    replace U := Up.trans U u36
    replace Vx := Lib.hid (Vx.out.up u36)
    replace Vy := Lib.hid (Vy.out.up u36)
    replace Vz := Lib.hid (Vz.out.up u36)
    replace V4 := Lib.hid (V4.out.up u36)
    replace V5 := Lib.hid (V5.out.up u36)
    replace V32 := Lib.hid (V32.out.up u36)
    replace V33 := Lib.hid (V33.out.up u36)
    replace V34 := Lib.hid (V34.out.up u36)
    replace V35 := Lib.hid (V35.out.up u36)
    replace bxx := Blk.up bxx u36
    replace bxy := Blk.up bxy u36
    replace bxz := Blk.up bxz u36
    replace bx4 := Blk.up bx4 u36
    replace bx5 := Blk.up bx5 u36
    clear hU36 u36
    have s36 := (And.intro (tri bxx) (And.intro (tri bxy) (And.intro (tri bxz) (And.intro (tri bx4) (tri bx5)))))
    go_wp2_with fail
    refine hK.out _ _ s36 (fun _ => ?_)
    clear hK K'
    try simp only [Act.put, List.setIfInBounds_toArray, List.set_cons_zero, List.set_cons_succ]
    clear s35
    refine wpSched_call (i := 55) (by as_aux_lemma => rw [HO15.out]; simp only [List.append_eq, List.cons_append, List.nil_append, List.getElem?_toArray, List.getElem?_cons_succ, List.getElem?_cons_zero]; rfl) (by as_aux_lemma => rw [HO15.out]; rfl) (fun K' hK => ?_)
    go_simp
    go_at_call 11
    have T37 := sameRat_q V33.out V36.out (by have := S33.out; omega) (by have := S36.out; omega)
    rw [decide_eq_true (RationalField_eq6 E32.out E33.out E34.out E35.out E36.out )] at T37
    refine T37.mono ?_
    rintro e w37 ⟨rfl, hU37⟩
    clear T37
    have u37 : Up w36 w37 := hU37
    replace U := Up.trans U u37
    replace Vx := Lib.hid (Vx.out.up u37)
    replace Vy := Lib.hid (Vy.out.up u37)
    replace Vz := Lib.hid (Vz.out.up u37)
    replace V4 := Lib.hid (V4.out.up u37)
    replace V5 := Lib.hid (V5.out.up u37)
    replace V32 := Lib.hid (V32.out.up u37)
    replace V33 := Lib.hid (V33.out.up u37)
    replace V34 := Lib.hid (V34.out.up u37)
    replace V35 := Lib.hid (V35.out.up u37)
    replace V36 := Lib.hid (V36.out.up u37)
    replace bxx := Blk.up bxx u37
    replace bxy := Blk.up bxy u37
    replace bxz := Blk.up bxz u37
    replace bx4 := Blk.up bx4 u37
    replace bx5 := Blk.up bx5 u37
    clear hU37 u37
    have s37 := (And.intro (tri bxx) (And.intro (tri bxy) (And.intro (tri bxz) (And.intro (tri bx4) (tri bx5)))))
    go_wp2_with fail
    refine hK.out _ _ s37 (fun _ => ?_)
    clear hK K'
    try simp only [Act.put, List.setIfInBounds_toArray, List.set_cons_zero, List.set_cons_succ]
    clear s36
    refine wpSched_take (i := 56) (v := ?v43) (by as_aux_lemma => rw [HO15.out]; simp only [List.append_eq, List.cons_append, List.nil_append, List.getElem?_toArray, List.getElem?_cons_succ, List.getElem?_cons_zero]; rfl) (Or.inl ⟨(by rfl), ?y43⟩) ?r43
    case y43 => as_aux_lemma => intro wx hSx; (try dsimp only at hSx); go_simp; try with_reducible rfl
    try simp only [Act.put, List.setIfInBounds_toArray, List.set_cons_zero, List.set_cons_succ]
    refine wpSched_take (i := 57) (v := ?v44) (by as_aux_lemma => rw [HO15.out]; simp only [List.append_eq, List.cons_append, List.nil_append, List.getElem?_toArray, List.getElem?_cons_succ, List.getElem?_cons_zero]; rfl) (Or.inl ⟨(by rfl), ?y44⟩) ?r44
    case y44 => as_aux_lemma => intro wx hSx; (try dsimp only at hSx); go_simp; try with_reducible rfl
    try simp only [Act.put, List.setIfInBounds_toArray, List.set_cons_zero, List.set_cons_succ]
    refine wpSched_take (i := 58) (v := ?v45) (by as_aux_lemma => rw [HO15.out]; simp only [List.append_eq, List.cons_append, List.nil_append, List.getElem?_toArray, List.getElem?_cons_succ, List.getElem?_cons_zero]; rfl) (Or.inl ⟨(by as_aux_lemma => rw [HO15.out]; rfl), ?y45⟩) ?r45
    case y45 => as_aux_lemma => intro wx hSx; (try dsimp only at hSx); go_simp; try with_reducible rfl
    try simp only [Act.put, List.setIfInBounds_toArray, List.set_cons_zero, List.set_cons_succ]
    refine wpSched_take (i := 59) (v := ?v46) (by as_aux_lemma => rw [HO15.out]; simp only [List.append_eq, List.cons_append, List.nil_append, List.getElem?_toArray, List.getElem?_cons_succ, List.getElem?_cons_zero]; rfl) (Or.inl ⟨(by as_aux_lemma => rw [HO15.out]; rfl), ?y46⟩) ?r46
    case y46 => as_aux_lemma => intro wx hSx; (try dsimp only at hSx); go_simp; try with_reducible rfl
    try simp only [Act.put, List.setIfInBounds_toArray, List.set_cons_zero, List.set_cons_succ]
    refine wpSched_take (i := 61) (v := ?v47) (by as_aux_lemma => rw [HO15.out]; simp only [List.append_eq, List.cons_append, List.nil_append, List.getElem?_toArray, List.getElem?_cons_succ, List.getElem?_cons_zero]; rfl) (Or.inl ⟨(by as_aux_lemma => rw [HO15.out]; rfl), ?y47⟩) ?r47
    case y47 => as_aux_lemma => intro wx hSx; (try dsimp only at hSx); go_simp; try with_reducible rfl
    try simp only [Act.put, List.setIfInBounds_toArray, List.set_cons_zero, List.set_cons_succ]
    clear V32 V33 V34 V35 V36
    refine wpSched_call (i := 60) (by as_aux_lemma => rw [HO15.out]; simp only [List.append_eq, List.cons_append, List.nil_append, List.getElem?_toArray, List.getElem?_cons_succ, List.getElem?_cons_zero]; rfl) (by as_aux_lemma => rw [HO15.out]; rfl) (fun K' hK => ?_)
    go_simp
    go_at_call 15
    refine (sub_q Vx.out Vx.out (by omega)).mono ?_
    rintro e w38 ⟨v38, rfl, hQ38, hU38⟩
    obtain ⟨s38x, A38, n38, c38, B38, m38, d38, rfl⟩ := hQ38.shape
    obtain ⟨q38, hq38⟩ : ∃ q, q = x - x := ⟨_, rfl⟩
    rw [← hq38] at hQ38
    have S38 : Hid (qs q38 ≤ 19) := Lib.hid (by (rw [hq38]; have := qs_sub x x; have := Sx.out; have := Sx.out; omega))
    have E38 := Lib.hid hq38
    clear hq38
    have V38 := Lib.hid hQ38
    clear hQ38
    have u38 : Up w37 w38 := hU38
    replace U := Up.trans U u38
    replace Vx := Lib.hid (Vx.out.up u38)
    replace Vy := Lib.hid (Vy.out.up u38)
    replace Vz := Lib.hid (Vz.out.up u38)
    replace V4 := Lib.hid (V4.out.up u38)
    replace V5 := Lib.hid (V5.out.up u38)
    replace bxx := Blk.up bxx u38
    replace bxy := Blk.up bxy u38
    replace bxz := Blk.up bxz u38
    replace bx4 := Blk.up bx4 u38
    replace bx5 := Blk.up bx5 u38
    clear hU38 u38
    have s38 := (And.intro (tri bxx) (And.intro (tri bxy) (And.intro (tri bxz) (And.intro (tri bx4) (tri bx5)))))
    go_wp2_with fail
    refine hK.out _ _ s38 (fun _ => ?_)
    clear hK K'
    try simp only [Act.put, List.setIfInBounds_toArray, List.set_cons_zero, List.set_cons_succ]
    clear s37
    refine wpSched_call (i := 62) (by as_aux_lemma => rw [HO15.out]; simp only [List.append_eq, List.cons_append, List.nil_append, List.getElem?_toArray, List.getElem?_cons_succ, List.getElem?_cons_zero]; rfl) (by as_aux_lemma => rw [HO15.out]; rfl) (fun K' hK => ?_)
    go_simp
    go_at_call 11
    have T39 := sameRat_q V38.out V4.out (by have := S38.out; omega) (by have := S4.out; omega)
    rw [decide_eq_true (RationalField_eq7 E4.out E38.out )] at T39
    refine T39.mono ?_
    rintro e w39 ⟨rfl, hU39⟩
    clear T39
    have u39 : Up w38 w39 := hU39
    replace U := Up.trans U u39
    replace Vx := Lib.hid (Vx.out.up u39)
    replace Vy := Lib.hid (Vy.out.up u39)
    replace Vz := Lib.hid (Vz.out.up u39)
    replace V4 := Lib.hid (V4.out.up u39)
    replace V5 := Lib.hid (V5.out.up u39)
    replace V38 := Lib.hid (V38.out.up u39)
    replace bxx := Blk.up bxx u39
    replace bxy := Blk.up bxy u39
    replace bxz := Blk.up bxz u39
    replace bx4 := Blk.up bx4 u39
    replace bx5 := Blk.up bx5 u39
    clear hU39 u39
    have s39 := (And.intro (tri bxx) (And.intro (tri bxy) (And.intro (tri bxz) (And.intro (tri bx4) (tri bx5)))))
    go_wp2_with fail
    refine hK.out _ _ s39 (fun _ => ?_)
    clear hK K'
    try simp only [Act.put, List.setIfInBounds_toArray, List.set_cons_zero, List.set_cons_succ]
    clear s38
    refine wpSched_take (i := 63) (v := ?v48) (by as_aux_lemma => rw [HO15.out]; simp only [List.append_eq, List.cons_append, List.nil_append, List.getElem?_toArray, List.getElem?_cons_succ, List.getElem?_cons_zero]; rfl) (Or.inl ⟨(by rfl), ?y48⟩) ?r48
    case y48 => as_aux_lemma => intro wx hSx; (try dsimp only at hSx); go_simp; try with_reducible rfl
    try simp only [Act.put, List.setIfInBounds_toArray, List.set_cons_zero, List.set_cons_succ]
    refine wpSched_take (i := 64) (v := ?v49) (by as_aux_lemma => rw [HO15.out]; simp only [List.append_eq, List.cons_append, List.nil_append, List.getElem?_toArray, List.getElem?_cons_succ, List.getElem?_cons_zero]; rfl) (Or.inl ⟨(by rfl), ?y49⟩) ?r49
    case y49 => as_aux_lemma => intro wx hSx; (try dsimp only at hSx); go_simp; try with_reducible rfl
    try simp only [Act.put, List.setIfInBounds_toArray, List.set_cons_zero, List.set_cons_succ]
    refine wpSched_take (i := 65) (v := ?v50) (by as_aux_lemma => rw [HO15.out]; simp only [List.append_eq, List.cons_append, List.nil_append, List.getElem?_toArray, List.getElem?_cons_succ, List.getElem?_cons_zero]; rfl) (Or.inl ⟨(by as_aux_lemma => rw [HO15.out]; rfl), ?y50⟩) ?r50
    case y50 => as_aux_lemma => intro wx hSx; (try dsimp only at hSx); go_simp; try with_reducible rfl
    try simp only [Act.put, List.setIfInBounds_toArray, List.set_cons_zero, List.set_cons_succ]
    refine wpSched_take (i := 66) (v := ?v51) (by as_aux_lemma => rw [HO15.out]; simp only [List.append_eq, List.cons_append, List.nil_append, List.getElem?_toArray, List.getElem?_cons_succ, List.getElem?_cons_zero]; rfl) (Or.inl ⟨(by as_aux_lemma => rw [HO15.out]; rfl), ?y51⟩) ?r51
    case y51 => as_aux_lemma => intro wx hSx; (try dsimp only at hSx); go_simp; try with_reducible rfl
    try simp only [Act.put, List.setIfInBounds_toArray, List.set_cons_zero, List.set_cons_succ]
    refine wpSched_take (i := 68) (v := ?v52) (by as_aux_lemma => rw [HO15.out]; simp only [List.append_eq, List.cons_append, List.nil_append, List.getElem?_toArray, List.getElem?_cons_succ, List.getElem?_cons_zero]; rfl) (Or.inl ⟨(by as_aux_lemma => rw [HO15.out]; rfl), ?y52⟩) ?r52
    case y52 => as_aux_lemma => intro wx hSx; (try dsimp only at hSx); go_simp; try with_reducible rfl
    try simp only [Act.put, List.setIfInBounds_toArray, List.set_cons_zero, List.set_cons_succ]
    clear V38
    refine wpSched_call (i := 67) (by as_aux_lemma => rw [HO15.out]; simp only [List.append_eq, List.cons_append, List.nil_append, List.getElem?_toArray, List.getElem?_cons_succ, List.getElem?_cons_zero]; rfl) (by as_aux_lemma => rw [HO15.out]; rfl) (fun K' hK => ?_)
    go_simp
    go_at_call 14
    refine (add_q Vx.out (V4.out.iv S4.out) (by omega)).mono ?_
    rintro e w40 ⟨v40, rfl, hQ40, hU40⟩
    obtain ⟨s40x, A40, n40, c40, B40, m40, d40, rfl⟩ := hQ40.shape
    obtain ⟨q40, hq40⟩ : ∃ q, q = x + q4 := ⟨_, rfl⟩
    rw [← hq40] at hQ40
    have S40 : Hid (qs q40 ≤ 13) := Lib.hid (by (rw [hq40]; have := qs_add x q4; have := Sx.out; have := S4.out; omega))
    have E40 := Lib.hid hq40
    clear hq40
    have V40 := Lib.hid hQ40
    clear hQ40
    have u40 : Up w39 w40 := hU40
    replace U := Up.trans U u40
    replace Vx := Lib.hid (Vx.out.up u40)
    replace Vy := Lib.hid (Vy.out.up u40)
    replace Vz := Lib.hid (Vz.out.up u40)
    replace V4 := Lib.hid (V4.out.up u40)
    replace V5 := Lib.hid (V5.out.up u40)
    replace bxx := Blk.up bxx u40
    replace bxy := Blk.up bxy u40
    replace bxz := Blk.up bxz u40
    replace bx4 := Blk.up bx4 u40
    replace bx5 := Blk.up bx5 u40
    clear hU40 u40
    have s40 := (And.intro (tri bxx) (And.intro (tri bxy) (And.intro (tri bxz) (And.intro (tri bx4) (tri bx5)))))
    go_wp2_with fail
    refine hK.out _ _ s40 (fun _ => ?_)
    clear hK K'
    try simp only [Act.put, List.setIfInBounds_toArray, List.set_cons_zero, List.set_cons_succ]
    clear s39
    refine wpSched_call (i := 69) (by as_aux_lemma => rw [HO15.out]; simp only [List.append_eq, List.cons_append, List.nil_append, List.getElem?_toArray, List.getElem?_cons_succ, List.getElem?_cons_zero]; rfl) (by as_aux_lemma => rw [HO15.out]; rfl) (fun K' hK => ?_)
    go_simp
    go_at_call 13
    refine (canonical_q Vx.out (by omega)).mono ?_
    rintro e w41 ⟨v41, rfl, hQ41, hU41⟩
    obtain ⟨s41x, A41, n41, c41, B41, m41, d41, rfl⟩ := hQ41.shape
    obtain ⟨q41, hq41⟩ : ∃ q, q = x := ⟨_, rfl⟩
    rw [← hq41] at hQ41
    have S41 : Hid (qs q41 ≤ 9) := Lib.hid (by (rw [hq41]; have := trivial; have := Sx.out; omega))
    have E41 := Lib.hid hq41
    clear hq41
    have V41 := Lib.hid hQ41
    clear hQ41
    have u41 : Up w40 w41 := hU41
    replace U := Up.trans U u41
    replace Vx := Lib.hid (Vx.out.up u41)
    replace Vy := Lib.hid (Vy.out.up u41)
    replace Vz := Lib.hid (Vz.out.up u41)
    replace V4 := Lib.hid (V4.out.up u41)
    replace V5 := Lib.hid (V5.out.up u41)
    replace V40 := Lib.hid (V40.out.up u41)
    replace bxx := Blk.up bxx u41
    replace bxy := Blk.up bxy u41
    replace bxz := Blk.up bxz u41
    replace bx4 := Blk.up bx4 u41
    replace bx5 := Blk.up bx5 u41
    clear hU41 u41
    have s41 := (And.intro (tri bxx) (And.intro (tri bxy) (And.intro (tri bxz) (And.intro (tri bx4) (tri bx5)))))
    go_wp2_with fail
    refine hK.out _ _ s41 (fun _ => ?_)
    clear hK K'
    try simp only [Act.put, List.setIfInBounds_toArray, List.set_cons_zero, List.set_cons_succ]
    clear s40
    refine wpSched_call (i := 70) (by as_aux_lemma => rw [HO15.out]; simp only [List.append_eq, List.cons_append, List.nil_append, List.getElem?_toArray, List.getElem?_cons_succ, List.getElem?_cons_zero]; rfl) (by as_aux_lemma => rw [HO15.out]; rfl) (fun K' hK => ?_)
    go_simp
    go_at_call 11
    have T42 := sameRat_q V40.out V41.out (by have := S40.out; omega) (by have := S41.out; omega)
    rw [decide_eq_true (RationalField_eq8 E4.out E40.out E41.out )] at T42
    refine T42.mono ?_
    rintro e w42 ⟨rfl, hU42⟩
    clear T42
    have u42 : Up w41 w42 := hU42
    replace U := Up.trans U u42
    replace Vx := Lib.hid (Vx.out.up u42)
    replace Vy := Lib.hid (Vy.out.up u42)
    replace Vz := Lib.hid (Vz.out.up u42)
    replace V4 := Lib.hid (V4.out.up u42)
    replace V5 := Lib.hid (V5.out.up u42)
    replace V40 := Lib.hid (V40.out.up u42)
    replace V41 := Lib.hid (V41.out.up u42)
    replace bxx := Blk.up bxx u42
    replace bxy := Blk.up bxy u42
    replace bxz := Blk.up bxz u42
    replace bx4 := Blk.up bx4 u42
    replace bx5 := Blk.up bx5 u42
    clear hU42 u42
    have s42 := (And.intro (tri bxx) (And.intro (tri bxy) (And.intro (tri bxz) (And.intro (tri bx4) (tri bx5)))))
    go_wp2_with fail
    refine hK.out _ _ s42 (fun _ => ?_)
    clear hK K'
    try simp only [Act.put, List.setIfInBounds_toArray, List.set_cons_zero, List.set_cons_succ]
    clear s41
    refine wpSched_take (i := 71) (v := ?v53) (by as_aux_lemma => rw [HO15.out]; simp only [List.append_eq, List.cons_append, List.nil_append, List.getElem?_toArray, List.getElem?_cons_succ, List.getElem?_cons_zero]; rfl) (Or.inl ⟨(by rfl), ?y53⟩) ?r53
    case y53 => as_aux_lemma => intro wx hSx; (try dsimp only at hSx); go_simp; try with_reducible rfl
    try simp only [Act.put, List.setIfInBounds_toArray, List.set_cons_zero, List.set_cons_succ]
    refine wpSched_take (i := 72) (v := ?v54) (by as_aux_lemma => rw [HO15.out]; simp only [List.append_eq, List.cons_append, List.nil_append, List.getElem?_toArray, List.getElem?_cons_succ, List.getElem?_cons_zero]; rfl) (Or.inl ⟨(by rfl), ?y54⟩) ?r54
    case y54 => as_aux_lemma => intro wx hSx; (try dsimp only at hSx); go_simp; try with_reducible rfl
    try simp only [Act.put, List.setIfInBounds_toArray, List.set_cons_zero, List.set_cons_succ]
    refine wpSched_take (i := 73) (v := ?v55) (by as_aux_lemma => rw [HO15.out]; simp only [List.append_eq, List.cons_append, List.nil_append, List.getElem?_toArray, List.getElem?_cons_succ, List.getElem?_cons_zero]; rfl) (Or.inl ⟨(by as_aux_lemma => rw [HO15.out]; rfl), ?y55⟩) ?r55
    case y55 => as_aux_lemma => intro wx hSx; (try dsimp only at hSx); go_simp; try with_reducible rfl
    try simp only [Act.put, List.setIfInBounds_toArray, List.set_cons_zero, List.set_cons_succ]
    refine wpSched_take (i := 74) (v := ?v56) (by as_aux_lemma => rw [HO15.out]; simp only [List.append_eq, List.cons_append, List.nil_append, List.getElem?_toArray, List.getElem?_cons_succ, List.getElem?_cons_zero]; rfl) (Or.inl ⟨(by as_aux_lemma => rw [HO15.out]; rfl), ?y56⟩) ?r56
    case y56 => as_aux_lemma => intro wx hSx; (try dsimp only at hSx); go_simp; try with_reducible rfl
    try simp only [Act.put, List.setIfInBounds_toArray, List.set_cons_zero, List.set_cons_succ]
    refine wpSched_take (i := 76) (v := ?v57) (by as_aux_lemma => rw [HO15.out]; simp only [List.append_eq, List.cons_append, List.nil_append, List.getElem?_toArray, List.getElem?_cons_succ, List.getElem?_cons_zero]; rfl) (Or.inl ⟨(by as_aux_lemma => rw [HO15.out]; rfl), ?y57⟩) ?r57
    case y57 => as_aux_lemma => intro wx hSx; (try dsimp only at hSx); go_simp; try with_reducible rfl
    try simp only [Act.put, List.setIfInBounds_toArray, List.set_cons_zero, List.set_cons_succ]
    clear V40 V41
    refine wpSched_call (i := 75) (by as_aux_lemma => rw [HO15.out]; simp only [List.append_eq, List.cons_append, List.nil_append, List.getElem?_toArray, List.getElem?_cons_succ, List.getElem?_cons_zero]; rfl) (by as_aux_lemma => rw [HO15.out]; rfl) (fun K' hK => ?_)
    go_simp
    go_at_call 12
    refine (mul_q Vx.out (V5.out.iv S5.out) (by omega)).mono ?_
    rintro e w43 ⟨v43, rfl, hQ43, hU43⟩
    obtain ⟨s43x, A43, n43, c43, B43, m43, d43, rfl⟩ := hQ43.shape
    obtain ⟨q43, hq43⟩ : ∃ q, q = x * q5 := ⟨_, rfl⟩
    rw [← hq43] at hQ43
    have S43 : Hid (qs q43 ≤ 12) := Lib.hid (by (rw [hq43]; have := qs_mul x q5; have := Sx.out; have := S5.out; omega))
    have E43 := Lib.hid hq43
    clear hq43
    have V43 := Lib.hid hQ43
    clear hQ43
    have u43 : Up w42 w43 := hU43
    replace U := Up.trans U u43
    replace Vx := Lib.hid (Vx.out.up u43)
    replace Vy := Lib.hid (Vy.out.up u43)
    replace Vz := Lib.hid (Vz.out.up u43)
    replace V4 := Lib.hid (V4.out.up u43)
    replace V5 := Lib.hid (V5.out.up u43)
    replace bxx := Blk.up bxx u43
    replace bxy := Blk.up bxy u43
    replace bxz := Blk.up bxz u43
    replace bx4 := Blk.up bx4 u43
    replace bx5 := Blk.up bx5 u43
    clear hU43 u43
    have s43 := (And.intro (tri bxx) (And.intro (tri bxy) (And.intro (tri bxz) (And.intro (tri bx4) (tri bx5)))))
    go_wp2_with fail
    refine hK.out _ _ s43 (fun _ => ?_)
    clear hK K'
    try simp only [Act.put, List.setIfInBounds_toArray, List.set_cons_zero, List.set_cons_succ]
    clear s42
    refine wpSched_call (i := 77) (by as_aux_lemma => rw [HO15.out]; simp only [List.append_eq, List.cons_append, List.nil_append, List.getElem?_toArray, List.getElem?_cons_succ, List.getElem?_cons_zero]; rfl) (by as_aux_lemma => rw [HO15.out]; rfl) (fun K' hK => ?_)
    go_simp
    go_at_call 13
    refine (canonical_q Vx.out (by omega)).mono ?_
    rintro e w44 ⟨v44, rfl, hQ44, hU44⟩
    obtain ⟨s44x, A44, n44, c44, B44, m44, d44, rfl⟩ := hQ44.shape
    obtain ⟨q44, hq44⟩ : ∃ q, q = x := ⟨_, rfl⟩
    rw [← hq44] at hQ44
    have S44 : Hid (qs q44 ≤ 9) := Lib.hid (by (rw [hq44]; have := trivial; have := Sx.out; omega))
    have E44 := Lib.hid hq44
    clear hq44
    have V44 := Lib.hid hQ44
    clear hQ44
    have u44 : Up w43 w44 := hU44
    replace U := Up.trans U u44
    replace Vx := Lib.hid (Vx.out.up u44)
    replace Vy := Lib.hid (Vy.out.up u44)
    replace Vz := Lib.hid (Vz.out.up u44)
    replace V4 := Lib.hid (V4.out.up u44)
    replace V5 := Lib.hid (V5.out.up u44)
    replace V43 := Lib.hid (V43.out.up u44)
    replace bxx := Blk.up bxx u44
    replace bxy := Blk.up bxy u44
    replace bxz := Blk.up bxz u44
    replace bx4 := Blk.up bx4 u44
    replace bx5 := Blk.up bx5 u44
    clear hU44 u44
    have s44 := (And.intro (tri bxx) (And.intro (tri bxy) (And.intro (tri bxz) (And.intro (tri bx4) (tri bx5)))))
    go_wp2_with fail
    refine hK.out _ _ s44 (fun _ => ?_)
    clear hK K'
    try simp only [Act.put, List.setIfInBounds_toArray, List.set_cons_zero, List.set_cons_succ]
    clear s43
    refine wpSched_call (i := 78) (by as_aux_lemma => rw [HO15.out]; simp only [List.append_eq, List.cons_append, List.nil_append, List.getElem?_toArray, List.getElem?_cons_succ, List.getElem?_cons_zero]; rfl) (by as_aux_lemma => rw [HO15.out]; rfl) (fun K' hK => ?_)
    go_simp
    go_at_call 11
    have T45 := sameRat_q V43.out V44.out (by have := S43.out; omega) (by have := S44.out; omega)
    rw [decide_eq_true (RationalField_eq9 E5.out E43.out E44.out )] at T45
    refine T45.mono ?_
    rintro e w45 ⟨rfl, hU45⟩
    clear T45
    have u45 : Up w44 w45 := hU45
    replace U := Up.trans U u45
    replace Vx := Lib.hid (Vx.out.up u45)
    replace Vy := Lib.hid (Vy.out.up u45)
    replace Vz := Lib.hid (Vz.out.up u45)
    replace V4 := Lib.hid (V4.out.up u45)
    replace V5 := Lib.hid (V5.out.up u45)
    replace V43 := Lib.hid (V43.out.up u45)
    replace V44 := Lib.hid (V44.out.up u45)
    replace bxx := Blk.up bxx u45
    replace bxy := Blk.up bxy u45
    replace bxz := Blk.up bxz u45
    replace bx4 := Blk.up bx4 u45
    replace bx5 := Blk.up bx5 u45
    clear hU45 u45
    have s45 := (And.intro (tri bxx) (And.intro (tri bxy) (And.intro (tri bxz) (And.intro (tri bx4) (tri bx5)))))
    go_wp2_with fail
    refine hK.out _ _ s45 (fun _ => ?_)
    clear hK K'
    try simp only [Act.put, List.setIfInBounds_toArray, List.set_cons_zero, List.set_cons_succ]
    clear s44
    refine wpSched_take (i := 79) (v := ?v58) (by as_aux_lemma => rw [HO15.out]; simp only [List.append_eq, List.cons_append, List.nil_append, List.getElem?_toArray, List.getElem?_cons_succ, List.getElem?_cons_zero]; rfl) (Or.inl ⟨(by rfl), ?y58⟩) ?r58
    case y58 => as_aux_lemma => intro wx hSx; (try dsimp only at hSx); go_simp; try with_reducible rfl
    try simp only [Act.put, List.setIfInBounds_toArray, List.set_cons_zero, List.set_cons_succ]
    refine wpSched_take (i := 80) (v := ?v59) (by as_aux_lemma => rw [HO15.out]; simp only [List.append_eq, List.cons_append, List.nil_append, List.getElem?_toArray, List.getElem?_cons_succ, List.getElem?_cons_zero]; rfl) (Or.inl ⟨(by rfl), ?y59⟩) ?r59
    case y59 => as_aux_lemma => intro wx hSx; (try dsimp only at hSx); go_simp; try with_reducible rfl
    try simp only [Act.put, List.setIfInBounds_toArray, List.set_cons_zero, List.set_cons_succ]
    clear V43 V44
    refine wpSched_call (i := 81) (by as_aux_lemma => rw [HO15.out]; simp only [List.append_eq, List.cons_append, List.nil_append, List.getElem?_toArray, List.getElem?_cons_succ, List.getElem?_cons_zero]; rfl) (by as_aux_lemma => rw [HO15.out]; rfl) (fun K' hK => ?_)
    go_simp
    go_at_call 16
    refine (awake01_any _).mono ?_
    rintro e w46 ⟨rfl, hU46⟩
    have u46 : Up w45 w46 := hU46
    replace U := Up.trans U u46
    replace Vx := Lib.hid (Vx.out.up u46)
    replace Vy := Lib.hid (Vy.out.up u46)
    replace Vz := Lib.hid (Vz.out.up u46)
    replace V4 := Lib.hid (V4.out.up u46)
    replace V5 := Lib.hid (V5.out.up u46)
    replace bxx := Blk.up bxx u46
    replace bxy := Blk.up bxy u46
    replace bxz := Blk.up bxz u46
    replace bx4 := Blk.up bx4 u46
    replace bx5 := Blk.up bx5 u46
    clear hU46 u46
    have s46 := (And.intro (tri bxx) (And.intro (tri bxy) (And.intro (tri bxz) (And.intro (tri bx4) (tri bx5)))))
    go_wp2_with fail
    refine hK.out _ _ s46 (fun _ => ?_)
    clear hK K'
    try simp only [Act.put, List.setIfInBounds_toArray, List.set_cons_zero, List.set_cons_succ]
    clear s45
    refine wpSched_take (i := 82) (v := ?v60) (by as_aux_lemma => rw [HO15.out]; simp only [List.append_eq, List.cons_append, List.nil_append, List.getElem?_toArray, List.getElem?_cons_succ, List.getElem?_cons_zero]; rfl) (Or.inl ⟨(by rfl), ?y60⟩) ?r60
    case y60 => as_aux_lemma => intro wx hSx; (try dsimp only at hSx); go_simp; try with_reducible rfl
    try simp only [Act.put, List.setIfInBounds_toArray, List.set_cons_zero, List.set_cons_succ]
    refine wpSched_take (i := 83) (v := ?v61) (by as_aux_lemma => rw [HO15.out]; simp only [List.append_eq, List.cons_append, List.nil_append, List.getElem?_toArray, List.getElem?_cons_succ, List.getElem?_cons_zero]; rfl) (Or.inl ⟨(by rfl), ?y61⟩) ?r61
    case y61 => as_aux_lemma => intro wx hSx; (try dsimp only at hSx); go_simp; try with_reducible rfl
    try simp only [Act.put, List.setIfInBounds_toArray, List.set_cons_zero, List.set_cons_succ]
    refine wpSched_end (NoPanic.normal ?_)
    clear HO15 O15 s46
    obtain ⟨bxxa, bxxb, bxxc⟩ := tri bxx
    obtain ⟨bxya, bxyb, bxyc⟩ := tri bxy
    obtain ⟨bxza, bxzb, bxzc⟩ := tri bxz
    obtain ⟨bx4a, bx4b, bx4c⟩ := tri bx4
    obtain ⟨bx5a, bx5b, bx5c⟩ := tri bx5
    go_wp2_with fail
    go_ret
    exact ⟨rfl, U⟩
end Go.Proofs.Ytoedmnalnpmleaa
