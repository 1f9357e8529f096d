/-
  RationalForms: for all rational numbers, in whatever form, the law returns true. Conditions: none.
-/
import Derived.Test.YtefiapjfiojaoaaDoorFFormat
import Derived.Test.YtefiapjfiojaoaaDoorRFormS
import Derived.Test.YtefiapjfiojaoaaDoorRZeros
import Derived.Test.YtefiapjfiojaoaaDoorPD
import Derived.Test.YtefiapjfiojaoaaDoorPA
namespace Go.Proofs.YtefiapjfiojaoaaDoor
open Go.RowKit

theorem RationalForms_eq1 {q12 q4 x : Rat} (e4 : q4 = x) (e12 : q12 = x)  : q12 = q4 := by
  exact e12.trans e4.symm

theorem RationalForms_eq2 {q14 q15 x y : Rat} (e14 : q14 = x + y) (e15 : q15 = x + y)  : q14 = q15 := by
  grind

set_option maxRecDepth 100000 in
set_option maxHeartbeats 6400000 in
theorem RationalForms_walk (vx : Value) (sx : Bool) (xsx ysx : List Nat) (vy : Value) (sy : Bool) (xsy ysy : List Nat) (z f : Int) (w : World) (Rx : RV w vx sx xsx ysx) (Ry : RV w vy sy xsy ysy) (hz : (Lit.int .i64 z).wf = true) (hf : (Lit.int .u32 f).wf = true) (htab : TabW w) :
    Calls Tryd.prog 3 #[vx, vy, .int .i64 z, .int .u32 f] w fun e w' => e = .returned (.bool true) ∧ Up w w' := by
  have HT := Lib.hid htab
  clear htab
  simp [Lit.wf, IntKind.min, IntKind.max, IntKind.bits, IntKind.signed] at hz hf
  obtain ⟨hz1, hz2⟩ := hz
  obtain ⟨hf1, hf2⟩ := hf
  obtain ⟨Ax, cx, Bx, dx, hvx, lx, mx⟩ := Rx.shape
  obtain ⟨Ay, cy, By, dy, hvy, ly, my⟩ := Ry.shape
  have Kx := fun (wx : World) => keepRat_any sx Ax Bx xsx.length ysx.length cx dx wx lx mx
  have Ky := fun (wx : World) => keepRat_any sy Ay By xsy.length ysy.length cy dy wx ly my
  by_cases kx : xsx.length ≤ 8 ∧ ysx.length ≤ 8
  case neg =>
    rw [show (decide (xsx.length ≤ 8) && decide (ysx.length ≤ 8)) = false from by rw [← Bool.decide_and, decide_eq_false_iff_not]; exact kx] at Kx
    replace Kx := Lib.hid Kx
    subst hvx hvy
    clear Ky Ry Rx kx 
    go_enter Tryd.func3, Tryd.ntmps3
    go_wp2_with fail
    obtain ⟨w0, hw0⟩ : ∃ wx, wx = ((w.alloc (Obj.cells #[.bool sx, .slice Ax xsx.length cx, .slice Bx ysx.length dx] 24)).alloc (Obj.cells #[.bool sy, .slice Ay xsy.length cy, .slice By ysy.length dy] 24)) := ⟨_, rfl⟩
    have U : Up w w0 := by rw [hw0]; exact Below.alloc (Below.alloc (Below.refl _ _) (Nat.le_refl _) _) (by simp) _
    have bxx : Blk w0 (w.heap.size) 24 #[.bool sx, .slice Ax xsx.length cx, .slice Bx ysx.length dx] := by rw [hw0]; exact Blk.alloc (Blk.new' _ _ _ (by simp)) _
    have bxy : Blk w0 (w.heap.size + 1) 24 #[.bool sy, .slice Ay xsy.length cy, .slice By ysy.length dy] := by rw [hw0]; exact Blk.new' _ _ _ (by simp)
    rw [← hw0]
    clear hw0
    obtain ⟨bxxa, bxxb, bxxc⟩ := tri bxx
    obtain ⟨bxya, bxyb, bxyc⟩ := tri bxy
    refine (Kx.out w0).mono ?_
    rintro e w1 ⟨rfl, hU1⟩
    have u1 : Up w0 w1 := hU1
    replace U := Up.trans U u1
    replace bxx := Blk.up bxx u1
    replace bxy := Blk.up bxy u1
    clear hU1 u1
    clear bxxa bxxb bxxc bxya bxyb bxyc
    obtain ⟨bxxa, bxxb, bxxc⟩ := tri bxx
    obtain ⟨bxya, bxyb, bxyc⟩ := tri bxy
    go_wp2_with fail
    go_ret
    exact ⟨rfl, U⟩
  rw [show (decide (xsx.length ≤ 8) && decide (ysx.length ≤ 8)) = true from by rw [← Bool.decide_and, decide_eq_true_iff]; exact kx] at Kx
  have Ix := Lib.hid (Rx.iv kx.1 kx.2)
  obtain ⟨x, hx⟩ : ∃ q, q = fq sx (nv xsx) (nv ysx) := ⟨_, rfl⟩
  rw [← hx] at Ix
  have Sx : Hid (qs x ≤ 9) := Lib.hid Ix.out.qs
  replace Kx := Lib.hid Kx
  clear hx kx
  by_cases ky : xsy.length ≤ 8 ∧ ysy.length ≤ 8
  case neg =>
    rw [show (decide (xsy.length ≤ 8) && decide (ysy.length ≤ 8)) = false from by rw [← Bool.decide_and, decide_eq_false_iff_not]; exact ky] at Ky
    replace Ky := Lib.hid Ky
    subst hvx hvy
    clear  Ry ky Rx
    go_enter Tryd.func3, Tryd.ntmps3
    go_wp2_with fail
    obtain ⟨w0, hw0⟩ : ∃ wx, wx = ((w.alloc (Obj.cells #[.bool sx, .slice Ax xsx.length cx, .slice Bx ysx.length dx] 24)).alloc (Obj.cells #[.bool sy, .slice Ay xsy.length cy, .slice By ysy.length dy] 24)) := ⟨_, rfl⟩
    have U : Up w w0 := by rw [hw0]; exact Below.alloc (Below.alloc (Below.refl _ _) (Nat.le_refl _) _) (by simp) _
    have bxx : Blk w0 (w.heap.size) 24 #[.bool sx, .slice Ax xsx.length cx, .slice Bx ysx.length dx] := by rw [hw0]; exact Blk.alloc (Blk.new' _ _ _ (by simp)) _
    have bxy : Blk w0 (w.heap.size + 1) 24 #[.bool sy, .slice Ay xsy.length cy, .slice By ysy.length dy] := by rw [hw0]; exact Blk.new' _ _ _ (by simp)
    rw [← hw0]
    clear hw0
    obtain ⟨bxxa, bxxb, bxxc⟩ := tri bxx
    obtain ⟨bxya, bxyb, bxyc⟩ := tri bxy
    refine (Kx.out w0).mono ?_
    rintro e w1 ⟨rfl, hU1⟩
    have u1 : Up w0 w1 := hU1
    replace U := Up.trans U u1
    replace bxx := Blk.up bxx u1
    replace bxy := Blk.up bxy u1
    clear hU1 u1
    clear bxxa bxxb bxxc bxya bxyb bxyc
    obtain ⟨bxxa, bxxb, bxxc⟩ := tri bxx
    obtain ⟨bxya, bxyb, bxyc⟩ := tri bxy
    go_wp2_with fail
    refine (Ky.out w1).mono ?_
    rintro e w2 ⟨rfl, hU2⟩
    have u2 : Up w1 w2 := hU2
    replace U := Up.trans U u2
    replace bxx := Blk.up bxx u2
    replace bxy := Blk.up bxy u2
    clear hU2 u2
    clear bxxa bxxb bxxc bxya bxyb bxyc
    obtain ⟨bxxa, bxxb, bxxc⟩ := tri bxx
    obtain ⟨bxya, bxyb, bxyc⟩ := tri bxy
    go_wp2_with fail
    go_ret
    exact ⟨rfl, U⟩
  rw [show (decide (xsy.length ≤ 8) && decide (ysy.length ≤ 8)) = true from by rw [← Bool.decide_and, decide_eq_true_iff]; exact ky] at Ky
  have Iy := Lib.hid (Ry.iv ky.1 ky.2)
  obtain ⟨y, hy⟩ : ∃ q, q = fq sy (nv xsy) (nv ysy) := ⟨_, rfl⟩
  rw [← hy] at Iy
  have Sy : Hid (qs y ≤ 9) := Lib.hid Iy.out.qs
  replace Ky := Lib.hid Ky
  clear hy ky
  subst hvx hvy
  clear Rx Ry
  go_enter Tryd.func3, Tryd.ntmps3
  go_wp2_with fail
  obtain ⟨w0, hw0⟩ : ∃ wx, wx = ((w.alloc (Obj.cells #[.bool sx, .slice Ax xsx.length cx, .slice Bx ysx.length dx] 24)).alloc (Obj.cells #[.bool sy, .slice Ay xsy.length cy, .slice By ysy.length dy] 24)) := ⟨_, rfl⟩
  have U : Up w w0 := by rw [hw0]; exact Below.alloc (Below.alloc (Below.refl _ _) (Nat.le_refl _) _) (by simp) _
  have bxx : Blk w0 (w.heap.size) 24 #[.bool sx, .slice Ax xsx.length cx, .slice Bx ysx.length dx] := by rw [hw0]; exact Blk.alloc (Blk.new' _ _ _ (by simp)) _
  have bxy : Blk w0 (w.heap.size + 1) 24 #[.bool sy, .slice Ay xsy.length cy, .slice By ysy.length dy] := by rw [hw0]; exact Blk.new' _ _ _ (by simp)
  rw [← hw0]
  clear hw0
  obtain ⟨bxxa, bxxb, bxxc⟩ := tri bxx
  obtain ⟨bxya, bxyb, bxyc⟩ := tri bxy
  have Vx := Lib.hid (Ix.out.up U)
  have Vy := Lib.hid (Iy.out.up U)
  refine (Kx.out w0).mono ?_
  rintro e w1 ⟨rfl, hU1⟩
  have u1 : Up w0 w1 := hU1
  replace U := Up.trans U u1
  replace Vx := Lib.hid (Vx.out.up u1)
  replace Vy := Lib.hid (Vy.out.up u1)
  replace bxx := Blk.up bxx u1
  replace bxy := Blk.up bxy u1
  clear hU1 u1
  clear bxxa bxxb bxxc bxya bxyb bxyc
  obtain ⟨bxxa, bxxb, bxxc⟩ := tri bxx
  obtain ⟨bxya, bxyb, bxyc⟩ := tri bxy
  go_wp2_with fail
  refine (Ky.out w1).mono ?_
  rintro e w2 ⟨rfl, hU2⟩
  have u2 : Up w1 w2 := hU2
  replace U := Up.trans U u2
  replace Vx := Lib.hid (Vx.out.up u2)
  replace Vy := Lib.hid (Vy.out.up u2)
  replace bxx := Blk.up bxx u2
  replace bxy := Blk.up bxy u2
  clear hU2 u2
  clear bxxa bxxb bxxc bxya bxyb bxyc
  obtain ⟨bxxa, bxxb, bxxc⟩ := tri bxx
  obtain ⟨bxya, bxyb, bxyc⟩ := tri bxy
  by_cases z1 : z < 0
  · have bz1 : decide (z < 0) = true := decide_eq_true z1
    go_wp2_with fail
    go_ret
    exact ⟨rfl, U⟩
  have bz1 : decide (z < 0) = false := decide_eq_false z1
  by_cases z2 : 3 < z
  · have bz2 : decide (3 < z) = true := decide_eq_true z2
    go_wp2_with fail
    go_ret
    exact ⟨rfl, U⟩
  have bz2 : decide (3 < z) = false := decide_eq_false z2
  by_cases f1 : f = 0
  · have bf1 : (f == 0) = true := beq_iff_eq.2 f1
    go_wp2_with fail
    go_ret
    exact ⟨rfl, U⟩
  have bf1 : (f == 0) = false := beq_eq_false_iff_ne.2 f1
  by_cases f2 : 1000 < f
  · have bf2 : decide (1000 < f) = true := decide_eq_true f2
    go_wp2_with fail
    go_ret
    exact ⟨rfl, U⟩
  have bf2 : decide (1000 < f) = false := decide_eq_false f2
  obtain ⟨s0, hs0⟩ : ∃ s, s = sgn x := ⟨_, rfl⟩
  have HS0 := Lib.hid hs0
  clear hs0
  go_wp2_with fail
  have T3 := rSign_q Vx.out (by omega)
  rw [← HS0.out] at T3
  refine T3.mono ?_
  rintro e w3 ⟨rfl, hU3⟩
  clear T3
  have u3 : Up w2 w3 := hU3
  replace U := Up.trans U u3
  replace Vx := Lib.hid (Vx.out.up u3)
  replace Vy := Lib.hid (Vy.out.up u3)
  replace bxx := Blk.up bxx u3
  replace bxy := Blk.up bxy u3
  clear hU3 u3
  clear bxxa bxxb bxxc bxya bxyb bxyc
  obtain ⟨bxxa, bxxb, bxxc⟩ := tri bxx
  obtain ⟨bxya, bxyb, bxyc⟩ := tri bxy
  by_cases s1 : s0 = 0
  · have bs1 : (s0 == 0) = true := beq_iff_eq.2 s1
    go_wp2_with fail
    go_ret
    exact ⟨rfl, U⟩
  have bs1 : (s0 == 0) = false := beq_eq_false_iff_ne.2 s1
  have hx0 := Lib.hid (fun h : x = 0 => s1 (by rw [HS0.out, h, sgn_zero]))
  obtain ⟨Z, rfl⟩ : ∃ Z : Nat, z = Z := ⟨z.toNat, by omega⟩
  obtain ⟨F, rfl⟩ : ∃ F : Nat, f = F := ⟨f.toNat, by omega⟩
  have HZF := Lib.hid (show Z ≤ 3 ∧ F ≠ 0 ∧ F ≤ 1000 by omega)
  go_wp2_with fail
  refine (canonical_q Vx.out (by omega)).mono ?_
  rintro e w4 ⟨v4, rfl, hQ4, hU4⟩
  obtain ⟨s4x, A4, n4, c4, B4, m4, d4, rfl⟩ := hQ4.shape
  obtain ⟨q4, hq4⟩ : ∃ q, q = x := ⟨_, rfl⟩
  rw [← hq4] at hQ4
  have S4 : Hid (qs q4 ≤ 9) := Lib.hid (by (rw [hq4]; have := trivial; have := Sx.out; omega))
  have E4 := Lib.hid hq4
  clear hq4
  have V4 := Lib.hid hQ4
  clear hQ4
  have u4 : Up w3 w4 := hU4
  replace U := Up.trans U u4
  replace Vx := Lib.hid (Vx.out.up u4)
  replace Vy := Lib.hid (Vy.out.up u4)
  replace bxx := Blk.up bxx u4
  replace bxy := Blk.up bxy u4
  clear hU4 u4
  clear bxxa bxxb bxxc bxya bxyb bxyc
  obtain ⟨bxxa, bxxb, bxxc⟩ := tri bxx
  obtain ⟨bxya, bxyb, bxyc⟩ := tri bxy
  have zbxx := bxx.lt
  have zbxy := bxy.lt
  have zU := U.size
  have NEv : Hid (w.heap.size ≤ w4.heap.size ∧ w.heap.size ≠ w4.heap.size ∧ w.heap.size + 1 ≠ w4.heap.size) := Lib.hid (by refine ⟨?_, ?_, ?_⟩ <;> omega)
  clear zU
  go_upto_region 4 with fail
  clear zbxx zbxy
  obtain ⟨w5, hw5⟩ : ∃ wx, wx = (w4.alloc (Obj.cells #[.bool s4x, .slice A4 n4 c4, .slice B4 m4 d4] 24)) := ⟨_, rfl⟩
  have hU5 : Up w4 w5 := by rw [hw5]; exact Below.alloc (Below.refl _ _) (Nat.le_refl _) _
  have bv : Blk w5 w4.heap.size 24 #[.bool s4x, .slice A4 n4 c4, .slice B4 m4 d4] := by rw [hw5]; exact Blk.new' _ _ _ rfl
  rw [← hw5]
  clear hw5
  have u5 : Up w4 w5 := hU5
  replace U := Up.trans U u5
  replace Vx := Lib.hid (Vx.out.up u5)
  replace Vy := Lib.hid (Vy.out.up u5)
  replace V4 := Lib.hid (V4.out.up u5)
  replace bxx := Blk.up bxx u5
  replace bxy := Blk.up bxy u5
  clear hU5 u5
  clear bxxa bxxb bxxc bxya bxyb bxyc
  obtain ⟨bxxa, bxxb, bxxc⟩ := tri bxx
  obtain ⟨bxya, bxyb, bxyc⟩ := tri bxy
  obtain ⟨gv, hgv⟩ : ∃ g, g = w4.heap.size := ⟨_, rfl⟩
  rw [← hgv] at bv NEv ⊢
  clear hgv
  clear bxxa bxxb bxxc bxya bxyb bxyc
  obtain ⟨bxxa, bxxb, bxxc⟩ := tri bxx
  obtain ⟨bxya, bxyb, bxyc⟩ := tri bxy
  obtain ⟨bva, bvb, bvc⟩ := tri bv
  obtain ⟨N, hN⟩ : ∃ n, n = q4.num.natAbs := ⟨_, rfl⟩
  have HN := Lib.hid hN
  clear hN
  obtain ⟨D, hD⟩ : ∃ n, n = q4.den := ⟨_, rfl⟩
  have HD := Lib.hid hD
  clear hD
  have zbxx := bxx.lt
  have zbxy := bxy.lt
  have zbv := bv.lt
  have zU := U.size
  have NEw : Hid (w.heap.size ≤ w5.heap.size ∧ w.heap.size ≠ w5.heap.size ∧ w.heap.size + 1 ≠ w5.heap.size ∧ gv ≠ w5.heap.size) := Lib.hid (by refine ⟨?_, ?_, ?_, ?_⟩ <;> omega)
  clear zU
  go_upto_region 5 with fail
  clear zbxx zbxy zbv
  obtain ⟨w6, hw6⟩ : ∃ wx, wx = (w5.alloc (Obj.cells #[.bool s4x, .slice none 0 0, .slice none 0 0] 24)) := ⟨_, rfl⟩
  have hU6 : Up w5 w6 := by rw [hw6]; exact Below.alloc (Below.refl _ _) (Nat.le_refl _) _
  have bw : Blk w6 w5.heap.size 24 #[.bool s4x, .slice none 0 0, .slice none 0 0] := by rw [hw6]; exact Blk.new' _ _ _ rfl
  rw [← hw6]
  clear hw6
  have u6 : Up w5 w6 := hU6
  replace U := Up.trans U u6
  replace Vx := Lib.hid (Vx.out.up u6)
  replace Vy := Lib.hid (Vy.out.up u6)
  replace V4 := Lib.hid (V4.out.up u6)
  replace bxx := Blk.up bxx u6
  replace bxy := Blk.up bxy u6
  replace bv := Blk.up bv u6
  clear hU6 u6
  clear bxxa bxxb bxxc bxya bxyb bxyc bva bvb bvc
  obtain ⟨bxxa, bxxb, bxxc⟩ := tri bxx
  obtain ⟨bxya, bxyb, bxyc⟩ := tri bxy
  obtain ⟨bva, bvb, bvc⟩ := tri bv
  obtain ⟨gw, hgw⟩ : ∃ g, g = w5.heap.size := ⟨_, rfl⟩
  rw [← hgw] at bw NEw ⊢
  clear hgw
  clear bxxa bxxb bxxc bxya bxyb bxyc bva bvb bvc
  obtain ⟨bxxa, bxxb, bxxc⟩ := tri bxx
  obtain ⟨bxya, bxyb, bxyc⟩ := tri bxy
  obtain ⟨bva, bvb, bvc⟩ := tri bv
  obtain ⟨bwa, bwb, bwc⟩ := tri bw
  have HN5 := Lib.hid (num_of V4.out (by have := S4.out; omega))
  rw [← HN.out] at HN5
  obtain ⟨p5, hp5⟩ : ∃ p : Rat, p = (N : Rat) * ((F : Int) : Rat) := ⟨_, rfl⟩
  have HQ5 := Lib.hid hp5
  clear hp5
  have HE5 : Hid (∀ wx : World, Up w6 wx → wx.cell? ⟨gv, 0, none⟩ = some (.bool s4x) ∧ wx.cell? ⟨gv, 1, none⟩ = some (.slice A4 n4 c4) ∧ wx.cell? ⟨gv, 2, none⟩ = some (.slice B4 m4 d4)) := Lib.hid fun wx u => tri (bv.up u)
  have HF5 := Lib.hid (fun (wx : World) => fromInt_q (w := wx) (F : Int) (by have := HZF.out; omega) (by have := HZF.out; omega))
  have HW5 : IntKind.i64.wrap (F : Int) = (F : Int) := IntWalk.i64_in _ (by have := HZF.out; omega)
  clear bxxa bxxb bxxc bxya bxyb bxyc bva bvb bvc bwa bwb bwc
  go_cut [11] from 47 to 54 (fun p11 wx => Up w6 wx ∧ BoxHold wx w6.heap.size p11 p5)
  case first =>
    refine wp_region_noPanic ?_
    refine wp_region_done (fun d a u => ∃ x47 x48 x49 x50 x51 x52 x53 x54 x11, a = { tmps := #[.agg #[.bool sx, .slice Ax xsx.length cx, .slice Bx ysx.length dx], .agg #[.bool sy, .slice Ay xsy.length cy, .slice By ysy.length dy], .int IntKind.i64 ↑Z, .int IntKind.u32 ↑F, .pointer (some ⟨w.heap.size, 0, none⟩), .pointer (some ⟨w.heap.size + 1, 0, none⟩), undef, undef, .bool false, .pointer (some ⟨gv, 0, none⟩), .pointer (some ⟨gw, 0, none⟩), x11, undef, .agg #[.bool sx, .slice Ax xsx.length cx, .slice Bx ysx.length dx], .bool true, .bool false, .bool false, .agg #[.bool sy, .slice Ay xsy.length cy, .slice By ysy.length dy], .bool true, .bool false, .bool false, .bool false, .int IntKind.i64 ↑Z, .bool false, .bool false, .bool false, .int IntKind.i64 ↑Z, .bool false, .bool false, .bool false, .int IntKind.u32 ↑F, .bool false, .bool false, .bool false, .int IntKind.u32 ↑F, .bool false, .bool false, .bool false, .agg #[.bool sx, .slice Ax xsx.length cx, .slice Bx ysx.length dx], .int IntKind.i64 s0, .bool false, .bool false, .agg #[.bool sx, .slice Ax xsx.length cx, .slice Bx ysx.length dx], .agg #[.bool s4x, .slice A4 n4 c4, .slice B4 m4 d4], .pointer (some ⟨gv, 0, none⟩), .bool s4x, .agg #[.bool s4x, .slice none 0 0, .slice none 0 0], x47, x48, x49, x50, x51, x52, x53, x54, undef, undef, undef, undef, undef, undef, undef, undef, undef, undef, undef, undef, undef, undef, undef, undef, undef, undef, undef, undef, undef, undef, undef, undef, undef, undef, undef, undef, undef, undef, undef, undef, undef, undef, undef, undef, undef, undef, undef, undef, undef, undef, undef, undef, undef, undef, undef, undef, undef, undef, undef, undef, undef, undef, undef, undef], defers := [] } ∧ GC w6 (.pointer (some ⟨gv, 1, none⟩)) (.slice A4 n4 c4) N F p5 d x47 x48 x49 x50 x51 x52 x53 x54 x11 u) (by kernel_rfl) (by as_aux_lemma => kernel_rfl) ⟨_, _, _, _, _, _, _, _, _, rfl, GC.start⟩ ?_ ?_
    · rintro d a u hd ⟨x47, x48, x49, x50, x51, x52, x53, x54, x11, rfl, h⟩
      refine NoPanic.normal ?_
      have hh := Lib.hid (h.fin (hd 9 (by decide)))
      clear hd h
      go_wp2_with fail
      go_meet
      exact hh.out
    · rintro d a u ⟨x47, x48, x49, x50, x51, x52, x53, x54, x11, rfl, h⟩ i hi hd hw
      have hi10 : i < 10 := hi
      obtain ⟨hd9, hg⟩ := h.gs hi10 hd
      have hh := Lib.hid hg
      have hw := Lib.hid hw
      have h9 := Lib.hid hd9
      obtain ⟨k0, k1, k2⟩ := HE5.out _ hg.up
      clear hi h hg hd9 hd
      rcases (show i = 0 ∨ i = 1 ∨ i = 2 ∨ i = 3 ∨ i = 4 ∨ i = 5 ∨ i = 6 ∨ i = 7 ∨ i = 8 ∨ i = 9 from by omega) with rfl | rfl | rfl | rfl | rfl | rfl | rfl | rfl | rfl | rfl
      · refine wpOp_shut (by rfl) (by rfl) (fun K' hK => ?_)
        go_simp
        go_wp2_with fail
        exact hK.out _ _ ⟨_, _, _, _, _, _, _, _, _, rfl, GS.gc (hh.out.s0) (by decide) h9.out⟩
      · obtain rfl := hh.out.e47 (hw.out 0 (by kernel_rfl))
        refine wpOp_shut (by rfl) (by rfl) (fun K' hK => ?_)
        go_simp
        go_wp2_with fail
        exact hK.out _ _ ⟨_, _, _, _, _, _, _, _, _, rfl, GS.gc (hh.out.s1) (by decide) h9.out⟩
      · refine wpOp_shut (by rfl) (by rfl) (fun K' hK => ?_)
        go_simp
        go_wp2_with fail
        exact hK.out _ _ ⟨_, _, _, _, _, _, _, _, _, rfl, GS.gc (hh.out.s2) (by decide) h9.out⟩
      · have a1 := Lib.hid (hw.out 1 (by kernel_rfl))
        have a2 := Lib.hid (hw.out 2 (by kernel_rfl))
        obtain rfl := hh.out.e48 a1.out
        have HV := Lib.hid (whole_iv (HN5.out.1.up hh.out.up) HN5.out.2.1 HN5.out.2.2.1 HN5.out.2.2.2.1 HN5.out.2.2.2.2 (hh.out.e49 a2.out))
        obtain ⟨g1, rfl, hb1⟩ := hh.out.e49 a2.out
        clear hb1
        refine wpOp_shut (by rfl) (by rfl) (fun K' hK => ?_)
        go_simp
        go_wp2_with fail
        exact hK.out _ _ ⟨_, _, _, _, _, _, _, _, _, rfl, GS.gc (hh.out.s3 HV.out) (by decide) h9.out⟩
      · refine wpOp_shut (by rfl) (by rfl) (fun K' hK => ?_)
        go_simp
        go_wp2_with fail
        exact hK.out _ _ ⟨_, _, _, _, _, _, _, _, _, rfl, GS.gc (hh.out.s4) (by decide) h9.out⟩
      · obtain rfl := hh.out.e51 (hw.out 4 (by kernel_rfl))
        refine wpOp_shut (by rfl) (by rfl) (fun K' hK => ?_)
        go_simp
        go_wp2_with fail
        exact hK.out _ _ ⟨_, _, _, _, _, _, _, _, _, rfl, GS.gc (hh.out.s5) (by decide) h9.out⟩
      · obtain rfl := hh.out.e52 (hw.out 5 (by kernel_rfl))
        refine wpOp_shut (by rfl) (by rfl) (fun K' hK => ?_)
        go_simp
        refine (HF5.out _).mono ?_
        rintro e w6 ⟨v6, rfl, hQ6, U6⟩
        have HQ6 := Lib.hid hQ6
        clear hQ6
        go_wp2_with fail
        exact hK.out _ _ ⟨_, _, _, _, _, _, _, _, _, rfl, GS.gc ((hh.out.mv U6).s6 HQ6.out) (by decide) h9.out⟩
      · have a3 := Lib.hid (hw.out 3 (by kernel_rfl))
        have a6 := Lib.hid (hw.out 6 (by kernel_rfl))
        refine wpOp_shut (by rfl) (by rfl) (fun K' hK => ?_)
        go_simp
        refine (mul_q (hh.out.e50 a3.out) ((hh.out.e53 a6.out).iv (qs_int _ (by have := HZF.out; omega) (by have := HZF.out; omega))) (by omega)).mono ?_
        rintro e w6 ⟨v6, rfl, hQ6, U6⟩
        rw [← HQ5.out] at hQ6
        have HQ6 := Lib.hid hQ6
        clear hQ6
        go_wp2_with fail
        exact hK.out _ _ ⟨_, _, _, _, _, _, _, _, _, rfl, GS.gc ((hh.out.mv U6).s7 HQ6.out) (by decide) h9.out⟩
      · refine wpOp_shut (by rfl) (by rfl) (fun K' hK => ?_)
        go_simp
        go_wp2_with fail
        exact hK.out _ _ ⟨_, _, _, _, _, _, _, _, _, rfl, GS.gc (hh.out.s8) (by decide) h9.out⟩
      · have hall : Hid (∀ j, j < 9 → d j = true) := Lib.hid fun j hj => hw.out j (by rcases (show j = 0 ∨ j = 1 ∨ j = 2 ∨ j = 3 ∨ j = 4 ∨ j = 5 ∨ j = 6 ∨ j = 7 ∨ j = 8 from by omega) with rfl | rfl | rfl | rfl | rfl | rfl | rfl | rfl | rfl <;> kernel_rfl)
        obtain ⟨g3, rfl, hg3, hb3⟩ := hh.out.b11 (hall.out 8 (by decide))
        obtain ⟨s7, A7, n7, c7, B7, m7, d7, rfl⟩ := (hh.out.e54 (hall.out 7 (by decide))).shape
        have f0 := hb3.frozen 0
        have f1 := hb3.frozen 1
        have f2 := hb3.frozen 2
        simp only [zeroCells] at hb3
        obtain ⟨z0, z1, z2⟩ := tri hb3
        refine wpOp_shut (by rfl) (by rfl) (fun K' hK => ?_)
        go_simp
        go_wp2_with fail
        exact hK.out _ _ ⟨_, _, _, _, _, _, _, _, _, rfl, GS.s9 hh.out rfl rfl hall.out⟩
  case rest =>
    obtain ⟨U7, s7x, A7, n7, c7, B7, m7, d7, ⟨g11, rfl, gg11, b11⟩, hQ7⟩ := hcut
    have zw := bw.lt
    have NE11 : Hid (gw ≠ g11) := Lib.hid (by omega)
    clear gg11 zw
    rename World => wr11
    have V7 := Lib.hid hQ7
    clear hQ7
    have u7 : Up w6 wr11 := U7
    replace U := Up.trans U u7
    replace Vx := Lib.hid (Vx.out.up u7)
    replace Vy := Lib.hid (Vy.out.up u7)
    replace V4 := Lib.hid (V4.out.up u7)
    replace bxx := Blk.up bxx u7
    replace bxy := Blk.up bxy u7
    replace bv := Blk.up bv u7
    replace bw := Blk.up bw u7
    clear U7 u7
    obtain ⟨bxxa, bxxb, bxxc⟩ := tri bxx
    obtain ⟨bxya, bxyb, bxyc⟩ := tri bxy
    obtain ⟨bva, bvb, bvc⟩ := tri bv
    obtain ⟨bwa, bwb, bwc⟩ := tri bw
    clear HE5 HF5 HW5 HN5
    clear bxxa bxxb bxxc bxya bxyb bxyc bva bvb bvc bwa bwb bwc
    obtain ⟨bxxa, bxxb, bxxc⟩ := tri bxx
    obtain ⟨bxya, bxyb, bxyc⟩ := tri bxy
    obtain ⟨bva, bvb, bvc⟩ := tri bv
    obtain ⟨bwa, bwb, bwc⟩ := tri bw
    obtain ⟨b11a, b11b, b11c⟩ := tri b11
    have HN6 := Lib.hid (den_of V4.out (by have := S4.out; omega))
    rw [← HD.out] at HN6
    obtain ⟨p6, hp6⟩ : ∃ p : Rat, p = (D : Rat) * ((F : Int) : Rat) := ⟨_, rfl⟩
    have HQ6 := Lib.hid hp6
    clear hp6
    have HE6 : Hid (∀ wx : World, Up wr11 wx → wx.cell? ⟨gv, 0, none⟩ = some (.bool s4x) ∧ wx.cell? ⟨gv, 1, none⟩ = some (.slice A4 n4 c4) ∧ wx.cell? ⟨gv, 2, none⟩ = some (.slice B4 m4 d4)) := Lib.hid fun wx u => tri (bv.up u)
    have HF6 := Lib.hid (fun (wx : World) => fromInt_q (w := wx) (F : Int) (by have := HZF.out; omega) (by have := HZF.out; omega))
    have HW6 : IntKind.i64.wrap (F : Int) = (F : Int) := IntWalk.i64_in _ (by have := HZF.out; omega)
    go_upto_region 6 with fail
    clear bxxa bxxb bxxc bxya bxyb bxyc bva bvb bvc bwa bwb bwc b11a b11b b11c
    go_cut [12] from 47 to 62 (fun p12 wx => Up wr11 wx ∧ BoxHold wx wr11.heap.size p12 p6)
    case first =>
      refine wp_region_noPanic ?_
      refine wp_region_done (fun d a u => ∃ y47 y48 y49 y50 y51 y52 y53 y54 x55 x56 x57 x58 x59 x60 x61 x62 x12, a = { tmps := #[.agg #[.bool sx, .slice Ax xsx.length cx, .slice Bx ysx.length dx], .agg #[.bool sy, .slice Ay xsy.length cy, .slice By ysy.length dy], .int IntKind.i64 ↑Z, .int IntKind.u32 ↑F, .pointer (some ⟨w.heap.size, 0, none⟩), .pointer (some ⟨w.heap.size + 1, 0, none⟩), undef, undef, .bool false, .pointer (some ⟨gv, 0, none⟩), .pointer (some ⟨gw, 0, none⟩), .pointer (some ⟨g11, 0, none⟩), x12, .agg #[.bool sx, .slice Ax xsx.length cx, .slice Bx ysx.length dx], .bool true, .bool false, .bool false, .agg #[.bool sy, .slice Ay xsy.length cy, .slice By ysy.length dy], .bool true, .bool false, .bool false, .bool false, .int IntKind.i64 ↑Z, .bool false, .bool false, .bool false, .int IntKind.i64 ↑Z, .bool false, .bool false, .bool false, .int IntKind.u32 ↑F, .bool false, .bool false, .bool false, .int IntKind.u32 ↑F, .bool false, .bool false, .bool false, .agg #[.bool sx, .slice Ax xsx.length cx, .slice Bx ysx.length dx], .int IntKind.i64 s0, .bool false, .bool false, .agg #[.bool sx, .slice Ax xsx.length cx, .slice Bx ysx.length dx], .agg #[.bool s4x, .slice A4 n4 c4, .slice B4 m4 d4], .pointer (some ⟨gv, 0, none⟩), .bool s4x, .agg #[.bool s4x, .slice none 0 0, .slice none 0 0], y47, y48, y49, y50, y51, y52, y53, y54, x55, x56, x57, x58, x59, x60, x61, x62, undef, undef, undef, undef, undef, undef, undef, undef, undef, undef, undef, undef, undef, undef, undef, undef, undef, undef, undef, undef, undef, undef, undef, undef, undef, undef, undef, undef, undef, undef, undef, undef, undef, undef, undef, undef, undef, undef, undef, undef, undef, undef, undef, undef, undef, undef, undef, undef], defers := [] } ∧ GC wr11 (.pointer (some ⟨gv, 2, none⟩)) (.slice B4 m4 d4) D F p6 d x55 x56 x57 x58 x59 x60 x61 x62 x12 u) (by kernel_rfl) (by as_aux_lemma => kernel_rfl) ⟨_, _, _, _, _, _, _, _, _, _, _, _, _, _, _, _, _, rfl, GC.start⟩ ?_ ?_
      · rintro d a u hd ⟨y47, y48, y49, y50, y51, y52, y53, y54, x55, x56, x57, x58, x59, x60, x61, x62, x12, rfl, h⟩
        refine NoPanic.normal ?_
        have hh := Lib.hid (h.fin (hd 9 (by decide)))
        clear hd h
        go_wp2_with fail
        go_meet
        exact hh.out
      · rintro d a u ⟨y47, y48, y49, y50, y51, y52, y53, y54, x55, x56, x57, x58, x59, x60, x61, x62, x12, rfl, h⟩ i hi hd hw
        have hi10 : i < 10 := hi
        obtain ⟨hd9, hg⟩ := h.gs hi10 hd
        have hh := Lib.hid hg
        have hw := Lib.hid hw
        have h9 := Lib.hid hd9
        obtain ⟨k0, k1, k2⟩ := HE6.out _ hg.up
        clear hi h hg hd9 hd
        rcases (show i = 0 ∨ i = 1 ∨ i = 2 ∨ i = 3 ∨ i = 4 ∨ i = 5 ∨ i = 6 ∨ i = 7 ∨ i = 8 ∨ i = 9 from by omega) with rfl | rfl | rfl | rfl | rfl | rfl | rfl | rfl | rfl | rfl
        · refine wpOp_shut (by rfl) (by rfl) (fun K' hK => ?_)
          go_simp
          go_wp2_with fail
          exact hK.out _ _ ⟨_, _, _, _, _, _, _, _, _, _, _, _, _, _, _, _, _, rfl, GS.gc (hh.out.s0) (by decide) h9.out⟩
        · obtain rfl := hh.out.e47 (hw.out 0 (by kernel_rfl))
          refine wpOp_shut (by rfl) (by rfl) (fun K' hK => ?_)
          go_simp
          go_wp2_with fail
          exact hK.out _ _ ⟨_, _, _, _, _, _, _, _, _, _, _, _, _, _, _, _, _, rfl, GS.gc (hh.out.s1) (by decide) h9.out⟩
        · refine wpOp_shut (by rfl) (by rfl) (fun K' hK => ?_)
          go_simp
          go_wp2_with fail
          exact hK.out _ _ ⟨_, _, _, _, _, _, _, _, _, _, _, _, _, _, _, _, _, rfl, GS.gc (hh.out.s2) (by decide) h9.out⟩
        · have a1 := Lib.hid (hw.out 1 (by kernel_rfl))
          have a2 := Lib.hid (hw.out 2 (by kernel_rfl))
          obtain rfl := hh.out.e48 a1.out
          have HV := Lib.hid (whole_iv (HN6.out.1.up hh.out.up) HN6.out.2.1 HN6.out.2.2.1 HN6.out.2.2.2.1 HN6.out.2.2.2.2 (hh.out.e49 a2.out))
          obtain ⟨g1, rfl, hb1⟩ := hh.out.e49 a2.out
          clear hb1
          refine wpOp_shut (by rfl) (by rfl) (fun K' hK => ?_)
          go_simp
          go_wp2_with fail
          exact hK.out _ _ ⟨_, _, _, _, _, _, _, _, _, _, _, _, _, _, _, _, _, rfl, GS.gc (hh.out.s3 HV.out) (by decide) h9.out⟩
        · refine wpOp_shut (by rfl) (by rfl) (fun K' hK => ?_)
          go_simp
          go_wp2_with fail
          exact hK.out _ _ ⟨_, _, _, _, _, _, _, _, _, _, _, _, _, _, _, _, _, rfl, GS.gc (hh.out.s4) (by decide) h9.out⟩
        · obtain rfl := hh.out.e51 (hw.out 4 (by kernel_rfl))
          refine wpOp_shut (by rfl) (by rfl) (fun K' hK => ?_)
          go_simp
          go_wp2_with fail
          exact hK.out _ _ ⟨_, _, _, _, _, _, _, _, _, _, _, _, _, _, _, _, _, rfl, GS.gc (hh.out.s5) (by decide) h9.out⟩
        · obtain rfl := hh.out.e52 (hw.out 5 (by kernel_rfl))
          refine wpOp_shut (by rfl) (by rfl) (fun K' hK => ?_)
          go_simp
          refine (HF6.out _).mono ?_
          rintro e w6 ⟨v6, rfl, hQ6, U6⟩
          have HQ6 := Lib.hid hQ6
          clear hQ6
          go_wp2_with fail
          exact hK.out _ _ ⟨_, _, _, _, _, _, _, _, _, _, _, _, _, _, _, _, _, rfl, GS.gc ((hh.out.mv U6).s6 HQ6.out) (by decide) h9.out⟩
        · have a3 := Lib.hid (hw.out 3 (by kernel_rfl))
          have a6 := Lib.hid (hw.out 6 (by kernel_rfl))
          refine wpOp_shut (by rfl) (by rfl) (fun K' hK => ?_)
          go_simp
          refine (mul_q (hh.out.e50 a3.out) ((hh.out.e53 a6.out).iv (qs_int _ (by have := HZF.out; omega) (by have := HZF.out; omega))) (by omega)).mono ?_
          rintro e w6 ⟨v6, rfl, hQ6, U6⟩
          rw [← HQ6.out] at hQ6
          have HQ6 := Lib.hid hQ6
          clear hQ6
          go_wp2_with fail
          exact hK.out _ _ ⟨_, _, _, _, _, _, _, _, _, _, _, _, _, _, _, _, _, rfl, GS.gc ((hh.out.mv U6).s7 HQ6.out) (by decide) h9.out⟩
        · refine wpOp_shut (by rfl) (by rfl) (fun K' hK => ?_)
          go_simp
          go_wp2_with fail
          exact hK.out _ _ ⟨_, _, _, _, _, _, _, _, _, _, _, _, _, _, _, _, _, rfl, GS.gc (hh.out.s8) (by decide) h9.out⟩
        · have hall : Hid (∀ j, j < 9 → d j = true) := Lib.hid fun j hj => hw.out j (by rcases (show j = 0 ∨ j = 1 ∨ j = 2 ∨ j = 3 ∨ j = 4 ∨ j = 5 ∨ j = 6 ∨ j = 7 ∨ j = 8 from by omega) with rfl | rfl | rfl | rfl | rfl | rfl | rfl | rfl | rfl <;> kernel_rfl)
          obtain ⟨g3, rfl, hg3, hb3⟩ := hh.out.b11 (hall.out 8 (by decide))
          obtain ⟨s7, A7, n7, c7, B7, m7, d7, rfl⟩ := (hh.out.e54 (hall.out 7 (by decide))).shape
          have f0 := hb3.frozen 0
          have f1 := hb3.frozen 1
          have f2 := hb3.frozen 2
          simp only [zeroCells] at hb3
          obtain ⟨z0, z1, z2⟩ := tri hb3
          refine wpOp_shut (by rfl) (by rfl) (fun K' hK => ?_)
          go_simp
          go_wp2_with fail
          exact hK.out _ _ ⟨_, _, _, _, _, _, _, _, _, _, _, _, _, _, _, _, _, rfl, GS.s9 hh.out rfl rfl hall.out⟩
    case rest =>
      obtain ⟨U8, s8x, A8, n8, c8, B8, m8, d8, ⟨g12, rfl, gg12, b12⟩, hQ8⟩ := hcut
      have zw := bw.lt
      have NE12 : Hid (gw ≠ g12) := Lib.hid (by omega)
      clear gg12 zw
      rename World => wr12
      have V8 := Lib.hid hQ8
      clear hQ8
      have u8 : Up wr11 wr12 := U8
      replace U := Up.trans U u8
      replace Vx := Lib.hid (Vx.out.up u8)
      replace Vy := Lib.hid (Vy.out.up u8)
      replace V4 := Lib.hid (V4.out.up u8)
      replace V7 := Lib.hid (V7.out.up u8)
      replace bxx := Blk.up bxx u8
      replace bxy := Blk.up bxy u8
      replace bv := Blk.up bv u8
      replace bw := Blk.up bw u8
      replace b11 := Blk.up b11 u8
      clear U8 u8
      obtain ⟨bxxa, bxxb, bxxc⟩ := tri bxx
      obtain ⟨bxya, bxyb, bxyc⟩ := tri bxy
      obtain ⟨bva, bvb, bvc⟩ := tri bv
      obtain ⟨bwa, bwb, bwc⟩ := tri bw
      obtain ⟨b11a, b11b, b11c⟩ := tri b11
      clear HE6 HF6 HW6 HN6
      clear bxxa bxxb bxxc bxya bxyb bxyc bva bvb bvc bwa bwb bwc b11a b11b b11c
      obtain ⟨bxxa, bxxb, bxxc⟩ := tri bxx
      obtain ⟨bxya, bxyb, bxyc⟩ := tri bxy
      obtain ⟨bva, bvb, bvc⟩ := tri bv
      obtain ⟨bwa, bwb, bwc⟩ := tri bw
      obtain ⟨b11a, b11b, b11c⟩ := tri b11
      obtain ⟨b12a, b12b, b12c⟩ := tri b12
      obtain ⟨hS9, hL9⟩ := prod_slice V7.out HQ5.out
      have HS9 := Lib.hid hS9
      have HL9 := Lib.hid hL9
      clear hS9 hL9
      have HP9 := Lib.hid (ln_prod (N := N) (F := F) (by rw [HN.out]; exact Nat.le_trans (qs_num _) S4.out) HZF.out.2.2)
      go_upto_region 8 with (first
        | (at_builtin; refine wpList_append_ints rfl (.tmp 64) (.tmp 66) 22 rfl wr12.heap.size 25 .u32 tabU (.slice none 0 0) [] rfl OI.nil_ wr12.heap.size A7 c7 (zs (digs (N * F))) (congrArg (fun l => Value.slice A7 l c7) HL9.out) HS9.out (by rw [zs_length]; have := HP9.out; simp only [List.length_nil]; exact Nat.le_trans (Nat.add_le_add_left this 0) (by omega)) (Nat.le_refl _) ?_; intro v2 w2 hA2)
        | (at_builtin; refine wpList_append_zeros rfl (.tmp 67) (.tmp 68) 22 3 rfl wr12.heap.size 25 .u32 tabU Tryd.underlying3 v2 _ rfl hA2.own Z rfl (by have := HZF.out; omega) (by rw [List.nil_append, zs_length]; have := HP9.out; exact Nat.le_trans this (by omega)) (hA2.below (Up.refl wr12) OI.nil_ (Nat.le_refl _)).size ?_; intro v3 w3 hA3; obtain ⟨hU9, A9, l9, c9, rfl, hl9, hs9, hc9, hm9⟩ := app_two hA2 hA3; have i9 := Blk.frozen (bw.up hU9) 1; obtain ⟨y9a, y9b, y9c⟩ := tri (bw.up hU9); have Hl9 := Lib.hid hl9; have Hs9 := Lib.hid hs9; have Hc9 := Lib.hid (And.intro hc9 hm9); clear hA2 hA3 hl9 hs9 hc9 hm9))
      have K9 : Kp w3 (w3.setCell ⟨gw, 1, none⟩ (.slice A9 l9 c9)) := (Kp.refl w3).setCell y9b (by intro _ _ h; cases h) _
      have UU9 : Up w (w3.setCell ⟨gw, 1, none⟩ (.slice A9 l9 c9)) := Below.setCell (Up.trans U hU9) (by exact NEw.out.1) _
      have Xbxx := (bxx.up hU9).far (p := ⟨gw, 1, none⟩) NEw.out.2.1 (.slice A9 l9 c9)
      have Xbxy := (bxy.up hU9).far (p := ⟨gw, 1, none⟩) NEw.out.2.2.1 (.slice A9 l9 c9)
      have Xbv := (bv.up hU9).far (p := ⟨gw, 1, none⟩) NEw.out.2.2.2 (.slice A9 l9 c9)
      have Xbw : Blk (w3.setCell ⟨gw, 1, none⟩ (.slice A9 l9 c9)) gw 24 #[.bool s4x, .slice A9 l9 c9, .slice none 0 0] := (bw.up hU9).set_ 1 _
      have Xb11 := (b11.up hU9).far (p := ⟨gw, 1, none⟩) NE11.out.symm (.slice A9 l9 c9)
      have Xb12 := (b12.up hU9).far (p := ⟨gw, 1, none⟩) NE12.out.symm (.slice A9 l9 c9)
      have XVx := Lib.hid ((Vx.out.up hU9).kp K9)
      have XVy := Lib.hid ((Vy.out.up hU9).kp K9)
      have XV4 := Lib.hid ((V4.out.up hU9).kp K9)
      have XV7 := Lib.hid ((V7.out.up hU9).kp K9)
      have XV8 := Lib.hid ((V8.out.up hU9).kp K9)
      have Xs9 := Lib.hid (SI.kp_only Hs9.out K9)
      clear K9 U hU9 i9 y9a y9b y9c Hs9 HS9 HL9 HP9 bxx bxy bv bw b11 b12 Vx Vy V4 V7 V8 
      clear bxxa bxxb bxxc bxya bxyb bxyc bva bvb bvc bwa bwb bwc b11a b11b b11c b12a b12b b12c
      obtain ⟨wa9, hw9⟩ : ∃ wx, wx = w3.setCell ⟨gw, 1, none⟩ (.slice A9 l9 c9) := ⟨_, rfl⟩
      rw [← hw9] at UU9 Xbxx Xbxy Xbv Xbw Xb11 Xb12 XVx XVy XV4 XV7 XV8 Xs9 ⊢
      clear hw9
      have bxx := Xbxx
      clear Xbxx
      have bxy := Xbxy
      clear Xbxy
      have bv := Xbv
      clear Xbv
      have bw := Xbw
      clear Xbw
      have b11 := Xb11
      clear Xb11
      have b12 := Xb12
      clear Xb12
      have U := UU9
      clear UU9
      obtain ⟨bxxa, bxxb, bxxc⟩ := tri bxx
      obtain ⟨bxya, bxyb, bxyc⟩ := tri bxy
      obtain ⟨bva, bvb, bvc⟩ := tri bv
      obtain ⟨bwa, bwb, bwc⟩ := tri bw
      obtain ⟨b11a, b11b, b11c⟩ := tri b11
      obtain ⟨b12a, b12b, b12c⟩ := tri b12
      obtain ⟨hS10, hL10⟩ := prod_slice XV8.out HQ6.out
      have HS10 := Lib.hid hS10
      have HL10 := Lib.hid hL10
      clear hS10 hL10
      have HP10 := Lib.hid (ln_prod (N := D) (F := F) (by rw [HD.out]; exact Nat.le_trans (qs_den _) S4.out) HZF.out.2.2)
      go_upto_region 9 with (first
        | (at_builtin; refine wpList_append_ints rfl (.tmp 72) (.tmp 74) 22 rfl wa9.heap.size 25 .u32 tabU (.slice none 0 0) [] rfl OI.nil_ wa9.heap.size A8 c8 (zs (digs (D * F))) (congrArg (fun l => Value.slice A8 l c8) HL10.out) HS10.out (by rw [zs_length]; have := HP10.out; simp only [List.length_nil]; exact Nat.le_trans (Nat.add_le_add_left this 0) (by omega)) (Nat.le_refl _) ?_; intro v2 w2 hA2)
        | (at_builtin; refine wpList_append_zeros rfl (.tmp 75) (.tmp 76) 22 3 rfl wa9.heap.size 25 .u32 tabU Tryd.underlying3 v2 _ rfl hA2.own Z rfl (by have := HZF.out; omega) (by rw [List.nil_append, zs_length]; have := HP10.out; exact Nat.le_trans this (by omega)) (hA2.below (Up.refl wa9) OI.nil_ (Nat.le_refl _)).size ?_; intro v3 w3 hA3; obtain ⟨hU10, A10, l10, c10, rfl, hl10, hs10, hc10, hm10⟩ := app_two hA2 hA3; have i10 := Blk.frozen (bw.up hU10) 2; obtain ⟨y10a, y10b, y10c⟩ := tri (bw.up hU10); have Hl10 := Lib.hid hl10; have Hs10 := Lib.hid hs10; have Hc10 := Lib.hid (And.intro hc10 hm10); clear hA2 hA3 hl10 hs10 hc10 hm10))
      have K10 : Kp w3 (w3.setCell ⟨gw, 2, none⟩ (.slice A10 l10 c10)) := (Kp.refl w3).setCell y10c (by intro _ _ h; cases h) _
      have UU10 : Up w (w3.setCell ⟨gw, 2, none⟩ (.slice A10 l10 c10)) := Below.setCell (Up.trans U hU10) (by exact NEw.out.1) _
      have Xbxx := (bxx.up hU10).far (p := ⟨gw, 2, none⟩) NEw.out.2.1 (.slice A10 l10 c10)
      have Xbxy := (bxy.up hU10).far (p := ⟨gw, 2, none⟩) NEw.out.2.2.1 (.slice A10 l10 c10)
      have Xbv := (bv.up hU10).far (p := ⟨gw, 2, none⟩) NEw.out.2.2.2 (.slice A10 l10 c10)
      have Xbw : Blk (w3.setCell ⟨gw, 2, none⟩ (.slice A10 l10 c10)) gw 24 #[.bool s4x, .slice A9 l9 c9, .slice A10 l10 c10] := (bw.up hU10).set_ 2 _
      have Xb11 := (b11.up hU10).far (p := ⟨gw, 2, none⟩) NE11.out.symm (.slice A10 l10 c10)
      have Xb12 := (b12.up hU10).far (p := ⟨gw, 2, none⟩) NE12.out.symm (.slice A10 l10 c10)
      have XXVx := Lib.hid ((XVx.out.up hU10).kp K10)
      have XXVy := Lib.hid ((XVy.out.up hU10).kp K10)
      have XXV4 := Lib.hid ((XV4.out.up hU10).kp K10)
      have XXV7 := Lib.hid ((XV7.out.up hU10).kp K10)
      have XXV8 := Lib.hid ((XV8.out.up hU10).kp K10)
      have XXs9 := Lib.hid (SI.up_kp Xs9.out hU10 K10)
      have Xs10 := Lib.hid (SI.kp_only Hs10.out K10)
      clear K10 U hU10 i10 y10a y10b y10c Hs10 HS10 HL10 HP10 bxx bxy bv bw b11 b12 XVx XVy XV4 XV7 XV8 Xs9
      clear bxxa bxxb bxxc bxya bxyb bxyc bva bvb bvc bwa bwb bwc b11a b11b b11c b12a b12b b12c
      obtain ⟨wa10, hw10⟩ : ∃ wx, wx = w3.setCell ⟨gw, 2, none⟩ (.slice A10 l10 c10) := ⟨_, rfl⟩
      rw [← hw10] at UU10 Xbxx Xbxy Xbv Xbw Xb11 Xb12 XXVx XXVy XXV4 XXV7 XXV8 XXs9 Xs10 ⊢
      clear hw10
      have bxx := Xbxx
      clear Xbxx
      have bxy := Xbxy
      clear Xbxy
      have bv := Xbv
      clear Xbv
      have bw := Xbw
      clear Xbw
      have b11 := Xb11
      clear Xb11
      have b12 := Xb12
      clear Xb12
      have U := UU10
      clear UU10
      obtain ⟨bxxa, bxxb, bxxc⟩ := tri bxx
      obtain ⟨bxya, bxyb, bxyc⟩ := tri bxy
      obtain ⟨bva, bvb, bvc⟩ := tri bv
      obtain ⟨bwa, bwb, bwc⟩ := tri bw
      obtain ⟨b11a, b11b, b11c⟩ := tri b11
      obtain ⟨b12a, b12b, b12c⟩ := tri b12
      have Vw := Lib.hid (forms_iv (x := q4) (XXV4.out.opened.1) HN.out HD.out HZF.out.2.1 HZF.out.2.2 S4.out HZF.out.1 Hl9.out Hl10.out XXs9.out Xs10.out Hc9.out.1 Hc9.out.2 Hc10.out.1 Hc10.out.2)
      rw [E4.out] at Vw
      clear XXs9 Xs10 Hl9 Hl10 Hc9 Hc10
      have Sw := Lib.hid Sx.out
      clear XXV7 XXV8
      obtain ⟨TX, hTX⟩ : ∃ T, T = (⟨(ftext x).toArray⟩ : ByteArray) := ⟨_, rfl⟩
      have HTX := Lib.hid hTX
      clear hTX
      go_wp2_with fail
      clear bxxa bxxb bxxc bxya bxyb bxyc bva bvb bvc bwa bwb bwc b11a b11b b11c b12a b12b b12c
      have s11 := (And.intro (tri bxx) (And.intro (tri bxy) (And.intro (tri bv) (tri bw))))
      refine wp_region_noPanic ?_
      refine wp_region_sched (S := (fun wx => (wx.cell? ⟨w.heap.size, 0, none⟩ = some (.bool sx) ∧ wx.cell? ⟨w.heap.size, 1, none⟩ = some (.slice Ax xsx.length cx) ∧ wx.cell? ⟨w.heap.size, 2, none⟩ = some (.slice Bx ysx.length dx)) ∧ (wx.cell? ⟨w.heap.size + 1, 0, none⟩ = some (.bool sy) ∧ wx.cell? ⟨w.heap.size + 1, 1, none⟩ = some (.slice Ay xsy.length cy) ∧ wx.cell? ⟨w.heap.size + 1, 2, none⟩ = some (.slice By ysy.length dy)) ∧ (wx.cell? ⟨gv, 0, none⟩ = some (.bool s4x) ∧ wx.cell? ⟨gv, 1, none⟩ = some (.slice A4 n4 c4) ∧ wx.cell? ⟨gv, 2, none⟩ = some (.slice B4 m4 d4)) ∧ (wx.cell? ⟨gw, 0, none⟩ = some (.bool s4x) ∧ wx.cell? ⟨gw, 1, none⟩ = some (.slice A9 l9 c9) ∧ wx.cell? ⟨gw, 2, none⟩ = some (.slice A10 l10 c10)))) [(0, false), (2, false), (1, true), (3, true), (4, false), (5, false), (6, false), (8, false), (9, false), (7, true), (10, true), (11, true), (12, false), (13, false), (14, false), (15, false), (17, false), (18, false), (16, true), (19, true), (20, false), (21, false), (22, false), (23, false), (25, false), (24, true), (26, true), (27, false), (28, false), (29, false), (30, true), (31, false), (32, false)] (by kernel_rfl) (by as_aux_lemma => kernel_rfl) (by as_aux_lemma => kernel_rfl) (by as_aux_lemma => kernel_rfl) (fun _ _ _ _ _ h => h) s11 ?_
      intro O11 HO11
      refine wpSched_take (i := 0) (v := ?_) (by as_aux_lemma => rw [HO11.out]; simp only [List.getElem?_toArray, List.getElem?_cons_zero]; rfl) (Or.inl ⟨(by rfl), ?_⟩) ?_
      rotate_left
      · as_aux_lemma => intro wx hSx; (try dsimp only at hSx); go_simp; try with_reducible rfl
      try simp only [Act.put, List.setIfInBounds_toArray, List.set_cons_zero, List.set_cons_succ]
      refine wpSched_take (i := 2) (v := ?_) (by as_aux_lemma => rw [HO11.out]; simp only [List.getElem?_toArray, List.getElem?_cons_succ, List.getElem?_cons_zero]; rfl) (Or.inl ⟨(by rfl), ?_⟩) ?_
      rotate_left
      · as_aux_lemma => intro wx hSx; (try dsimp only at hSx); go_simp; try with_reducible rfl
      try simp only [Act.put, List.setIfInBounds_toArray, List.set_cons_zero, List.set_cons_succ]
      refine wpSched_call (i := 1) (by as_aux_lemma => rw [HO11.out]; simp only [List.getElem?_toArray, List.getElem?_cons_succ, List.getElem?_cons_zero]; rfl) (by rfl) (fun K' hK => ?_)
      go_simp
      go_at_call 8
      refine (canonical_q (Vw.out.up (Up.refl wa10).drew) (by omega)).mono ?_
      rintro e w12 ⟨v12, rfl, hQ12, hU12⟩
      obtain ⟨s12x, A12, n12, c12, B12, m12, d12, rfl⟩ := hQ12.shape
      obtain ⟨q12, hq12⟩ : ∃ q, q = x := ⟨_, rfl⟩
      rw [← hq12] at hQ12
      have S12 : Hid (qs q12 ≤ 13) := Lib.hid (by (rw [hq12]; have := trivial; have := Sw.out; omega))
      have E12 := Lib.hid hq12
      clear hq12
      have V12 := Lib.hid hQ12
      clear hQ12
      have u12 : Up wa10 w12 := Up.trans (Up.refl wa10).drew hU12
      replace U := Up.trans U u12
      replace XXVx := Lib.hid (XXVx.out.up u12)
      replace XXVy := Lib.hid (XXVy.out.up u12)
      replace XXV4 := Lib.hid (XXV4.out.up u12)
      replace Vw := Lib.hid (Vw.out.up u12)
      replace bxx := Blk.up bxx u12
      replace bxy := Blk.up bxy u12
      replace bv := Blk.up bv u12
      replace bw := Blk.up bw u12
      clear hU12 u12
      have s12 := (And.intro (tri bxx) (And.intro (tri bxy) (And.intro (tri bv) (tri bw))))
      go_wp2_with fail
      refine hK.out _ _ s12 (fun _ => ?_)
      clear hK K'
      try simp only [Act.put, List.setIfInBounds_toArray, List.set_cons_zero, List.set_cons_succ]
      clear s11
      refine wpSched_call (i := 3) (by as_aux_lemma => rw [HO11.out]; simp only [List.getElem?_toArray, List.getElem?_cons_succ, List.getElem?_cons_zero]; rfl) (by rfl) (fun K' hK => ?_)
      go_simp
      go_at_call 11
      have T13 := sameRat_q V12.out XXV4.out (by have := S12.out; omega) (by have := S4.out; omega)
      rw [decide_eq_true (RationalForms_eq1 E4.out E12.out )] at T13
      refine T13.mono ?_
      rintro e w13 ⟨rfl, hU13⟩
      clear T13
      have u13 : Up w12 w13 := hU13
      replace U := Up.trans U u13
      replace XXVx := Lib.hid (XXVx.out.up u13)
      replace XXVy := Lib.hid (XXVy.out.up u13)
      replace XXV4 := Lib.hid (XXV4.out.up u13)
      replace Vw := Lib.hid (Vw.out.up u13)
      replace V12 := Lib.hid (V12.out.up u13)
      replace bxx := Blk.up bxx u13
      replace bxy := Blk.up bxy u13
      replace bv := Blk.up bv u13
      replace bw := Blk.up bw u13
      clear hU13 u13
      have s13 := (And.intro (tri bxx) (And.intro (tri bxy) (And.intro (tri bv) (tri bw))))
      go_wp2_with fail
      refine hK.out _ _ s13 (fun _ => ?_)
      clear hK K'
      try simp only [Act.put, List.setIfInBounds_toArray, List.set_cons_zero, List.set_cons_succ]
      clear s12
      refine wpSched_take (i := 4) (v := ?_) (by as_aux_lemma => rw [HO11.out]; simp only [List.getElem?_toArray, List.getElem?_cons_succ, List.getElem?_cons_zero]; rfl) (Or.inl ⟨(by rfl), ?_⟩) ?_
      rotate_left
      · as_aux_lemma => intro wx hSx; (try dsimp only at hSx); go_simp; try with_reducible rfl
      try simp only [Act.put, List.setIfInBounds_toArray, List.set_cons_zero, List.set_cons_succ]
      refine wpSched_take (i := 5) (v := ?_) (by as_aux_lemma => rw [HO11.out]; simp only [List.getElem?_toArray, List.getElem?_cons_succ, List.getElem?_cons_zero]; rfl) (Or.inl ⟨(by as_aux_lemma => rw [HO11.out]; rfl), ?_⟩) ?_
      rotate_left
      · as_aux_lemma => intro wx hSx; (try dsimp only at hSx); go_simp; try with_reducible rfl
      try simp only [Act.put, List.setIfInBounds_toArray, List.set_cons_zero, List.set_cons_succ]
      refine wpSched_take (i := 6) (v := ?_) (by as_aux_lemma => rw [HO11.out]; simp only [List.getElem?_toArray, List.getElem?_cons_succ, List.getElem?_cons_zero]; rfl) (Or.inl ⟨(by as_aux_lemma => rw [HO11.out]; rfl), ?_⟩) ?_
      rotate_left
      · as_aux_lemma => intro wx hSx; (try dsimp only at hSx); go_simp; try with_reducible rfl
      try simp only [Act.put, List.setIfInBounds_toArray, List.set_cons_zero, List.set_cons_succ]
      refine wpSched_take (i := 8) (v := ?_) (by as_aux_lemma => rw [HO11.out]; simp only [List.getElem?_toArray, List.getElem?_cons_succ, List.getElem?_cons_zero]; rfl) (Or.inl ⟨(by as_aux_lemma => rw [HO11.out]; rfl), ?_⟩) ?_
      rotate_left
      · as_aux_lemma => intro wx hSx; (try dsimp only at hSx); go_simp; try with_reducible rfl
      try simp only [Act.put, List.setIfInBounds_toArray, List.set_cons_zero, List.set_cons_succ]
      refine wpSched_take (i := 9) (v := ?_) (by as_aux_lemma => rw [HO11.out]; simp only [List.getElem?_toArray, List.getElem?_cons_succ, List.getElem?_cons_zero]; rfl) (Or.inl ⟨(by as_aux_lemma => rw [HO11.out]; rfl), ?_⟩) ?_
      rotate_left
      · as_aux_lemma => intro wx hSx; (try dsimp only at hSx); go_simp; try with_reducible rfl
      try simp only [Act.put, List.setIfInBounds_toArray, List.set_cons_zero, List.set_cons_succ]
      clear V12 XXV4
      refine wpSched_call (i := 7) (by as_aux_lemma => rw [HO11.out]; simp only [List.getElem?_toArray, List.getElem?_cons_succ, List.getElem?_cons_zero]; rfl) (by as_aux_lemma => rw [HO11.out]; rfl) (fun K' hK => ?_)
      go_simp
      go_at_call 12
      refine (add_q Vw.out XXVy.out (by omega)).mono ?_
      rintro e w14 ⟨v14, rfl, hQ14, hU14⟩
      obtain ⟨s14x, A14, n14, c14, B14, m14, d14, rfl⟩ := hQ14.shape
      obtain ⟨q14, hq14⟩ : ∃ q, q = x + y := ⟨_, rfl⟩
      rw [← hq14] at hQ14
      have S14 : Hid (qs q14 ≤ 23) := Lib.hid (by (rw [hq14]; have := qs_add x y; have := Sw.out; have := Sy.out; omega))
      have E14 := Lib.hid hq14
      clear hq14
      have V14 := Lib.hid hQ14
      clear hQ14
      have u14 : Up w13 w14 := hU14
      replace U := Up.trans U u14
      replace XXVx := Lib.hid (XXVx.out.up u14)
      replace XXVy := Lib.hid (XXVy.out.up u14)
      replace Vw := Lib.hid (Vw.out.up u14)
      replace bxx := Blk.up bxx u14
      replace bxy := Blk.up bxy u14
      replace bv := Blk.up bv u14
      replace bw := Blk.up bw u14
      clear hU14 u14
      have s14 := (And.intro (tri bxx) (And.intro (tri bxy) (And.intro (tri bv) (tri bw))))
      go_wp2_with fail
      refine hK.out _ _ s14 (fun _ => ?_)
      clear hK K'
      try simp only [Act.put, List.setIfInBounds_toArray, List.set_cons_zero, List.set_cons_succ]
      clear s13
      refine wpSched_call (i := 10) (by as_aux_lemma => rw [HO11.out]; simp only [List.getElem?_toArray, List.getElem?_cons_succ, List.getElem?_cons_zero]; rfl) (by as_aux_lemma => rw [HO11.out]; rfl) (fun K' hK => ?_)
      go_simp
      go_at_call 12
      refine (add_q XXVx.out XXVy.out (by omega)).mono ?_
      rintro e w15 ⟨v15, rfl, hQ15, hU15⟩
      obtain ⟨s15x, A15, n15, c15, B15, m15, d15, rfl⟩ := hQ15.shape
      obtain ⟨q15, hq15⟩ : ∃ q, q = x + y := ⟨_, rfl⟩
      rw [← hq15] at hQ15
      have S15 : Hid (qs q15 ≤ 19) := Lib.hid (by (rw [hq15]; have := qs_add x y; have := Sx.out; have := Sy.out; omega))
      have E15 := Lib.hid hq15
      clear hq15
      have V15 := Lib.hid hQ15
      clear hQ15
      have u15 : Up w14 w15 := hU15
      replace U := Up.trans U u15
      replace XXVx := Lib.hid (XXVx.out.up u15)
      replace XXVy := Lib.hid (XXVy.out.up u15)
      replace Vw := Lib.hid (Vw.out.up u15)
      replace V14 := Lib.hid (V14.out.up u15)
      replace bxx := Blk.up bxx u15
      replace bxy := Blk.up bxy u15
      replace bv := Blk.up bv u15
      replace bw := Blk.up bw u15
      clear hU15 u15
      have s15 := (And.intro (tri bxx) (And.intro (tri bxy) (And.intro (tri bv) (tri bw))))
      go_wp2_with fail
      refine hK.out _ _ s15 (fun _ => ?_)
      clear hK K'
      try simp only [Act.put, List.setIfInBounds_toArray, List.set_cons_zero, List.set_cons_succ]
      clear s14
      refine wpSched_call (i := 11) (by as_aux_lemma => rw [HO11.out]; simp only [List.getElem?_toArray, List.getElem?_cons_succ, List.getElem?_cons_zero]; rfl) (by as_aux_lemma => rw [HO11.out]; rfl) (fun K' hK => ?_)
      go_simp
      go_at_call 11
      have T16 := sameRat_q V14.out V15.out (by have := S14.out; omega) (by have := S15.out; omega)
      rw [decide_eq_true (RationalForms_eq2 E14.out E15.out )] at T16
      refine T16.mono ?_
      rintro e w16 ⟨rfl, hU16⟩
      clear T16
      have u16 : Up w15 w16 := hU16
      replace U := Up.trans U u16
      replace XXVx := Lib.hid (XXVx.out.up u16)
      replace XXVy := Lib.hid (XXVy.out.up u16)
      replace Vw := Lib.hid (Vw.out.up u16)
      replace V14 := Lib.hid (V14.out.up u16)
      replace V15 := Lib.hid (V15.out.up u16)
      replace bxx := Blk.up bxx u16
      replace bxy := Blk.up bxy u16
      replace bv := Blk.up bv u16
      replace bw := Blk.up bw u16
      clear hU16 u16
      have s16 := (And.intro (tri bxx) (And.intro (tri bxy) (And.intro (tri bv) (tri bw))))
      go_wp2_with fail
      refine hK.out _ _ s16 (fun _ => ?_)
      clear hK K'
      try simp only [Act.put, List.setIfInBounds_toArray, List.set_cons_zero, List.set_cons_succ]
      clear s15
      refine wpSched_take (i := 12) (v := ?_) (by as_aux_lemma => rw [HO11.out]; simp only [List.getElem?_toArray, List.getElem?_cons_succ, List.getElem?_cons_zero]; rfl) (Or.inl ⟨(by rfl), ?_⟩) ?_
      rotate_left
      · as_aux_lemma => intro wx hSx; (try dsimp only at hSx); go_simp; try with_reducible rfl
      try simp only [Act.put, List.setIfInBounds_toArray, List.set_cons_zero, List.set_cons_succ]
      refine wpSched_take (i := 13) (v := ?_) (by as_aux_lemma => rw [HO11.out]; simp only [List.getElem?_toArray, List.getElem?_cons_succ, List.getElem?_cons_zero]; rfl) (Or.inl ⟨(by rfl), ?_⟩) ?_
      rotate_left
      · as_aux_lemma => intro wx hSx; (try dsimp only at hSx); go_simp; try with_reducible rfl
      try simp only [Act.put, List.setIfInBounds_toArray, List.set_cons_zero, List.set_cons_succ]
      refine wpSched_take (i := 14) (v := ?_) (by as_aux_lemma => rw [HO11.out]; simp only [List.getElem?_toArray, List.getElem?_cons_succ, List.getElem?_cons_zero]; rfl) (Or.inl ⟨(by as_aux_lemma => rw [HO11.out]; rfl), ?_⟩) ?_
      rotate_left
      · as_aux_lemma => intro wx hSx; (try dsimp only at hSx); go_simp; try with_reducible rfl
      try simp only [Act.put, List.setIfInBounds_toArray, List.set_cons_zero, List.set_cons_succ]
      refine wpSched_take (i := 15) (v := ?_) (by as_aux_lemma => rw [HO11.out]; simp only [List.getElem?_toArray, List.getElem?_cons_succ, List.getElem?_cons_zero]; rfl) (Or.inl ⟨(by as_aux_lemma => rw [HO11.out]; rfl), ?_⟩) ?_
      rotate_left
      · as_aux_lemma => intro wx hSx; (try dsimp only at hSx); go_simp; try with_reducible rfl
      try simp only [Act.put, List.setIfInBounds_toArray, List.set_cons_zero, List.set_cons_succ]
      refine wpSched_take (i := 17) (v := ?_) (by as_aux_lemma => rw [HO11.out]; simp only [List.getElem?_toArray, List.getElem?_cons_succ, List.getElem?_cons_zero]; rfl) (Or.inl ⟨(by as_aux_lemma => rw [HO11.out]; rfl), ?_⟩) ?_
      rotate_left
      · as_aux_lemma => intro wx hSx; (try dsimp only at hSx); go_simp; try with_reducible rfl
      try simp only [Act.put, List.setIfInBounds_toArray, List.set_cons_zero, List.set_cons_succ]
      refine wpSched_take (i := 18) (v := ?_) (by as_aux_lemma => rw [HO11.out]; simp only [List.getElem?_toArray, List.getElem?_cons_succ, List.getElem?_cons_zero]; rfl) (Or.inl ⟨(by as_aux_lemma => rw [HO11.out]; rfl), ?_⟩) ?_
      rotate_left
      · as_aux_lemma => intro wx hSx; (try dsimp only at hSx); go_simp; try with_reducible rfl
      try simp only [Act.put, List.setIfInBounds_toArray, List.set_cons_zero, List.set_cons_succ]
      clear V14 V15
      refine wpSched_call (i := 16) (by as_aux_lemma => rw [HO11.out]; simp only [List.getElem?_toArray, List.getElem?_cons_succ, List.getElem?_cons_zero]; rfl) (by as_aux_lemma => rw [HO11.out]; rfl) (fun K' hK => ?_)
      go_simp
      go_at_call 13
      have T17 := cmp_q Vw.out XXVy.out (by omega)
      refine T17.mono ?_
      rintro e w17 ⟨rfl, hU17⟩
      clear T17
      have u17 : Up w16 w17 := hU17
      replace U := Up.trans U u17
      replace XXVx := Lib.hid (XXVx.out.up u17)
      replace XXVy := Lib.hid (XXVy.out.up u17)
      replace Vw := Lib.hid (Vw.out.up u17)
      replace bxx := Blk.up bxx u17
      replace bxy := Blk.up bxy u17
      replace bv := Blk.up bv u17
      replace bw := Blk.up bw u17
      clear hU17 u17
      have s17 := (And.intro (tri bxx) (And.intro (tri bxy) (And.intro (tri bv) (tri bw))))
      go_wp2_with fail
      refine hK.out _ _ s17 (fun _ => ?_)
      clear hK K'
      try simp only [Act.put, List.setIfInBounds_toArray, List.set_cons_zero, List.set_cons_succ]
      clear s16
      refine wpSched_call (i := 19) (by as_aux_lemma => rw [HO11.out]; simp only [List.getElem?_toArray, List.getElem?_cons_succ, List.getElem?_cons_zero]; rfl) (by as_aux_lemma => rw [HO11.out]; rfl) (fun K' hK => ?_)
      go_simp
      go_at_call 13
      have T18 := cmp_q XXVx.out XXVy.out (by omega)
      refine T18.mono ?_
      rintro e w18 ⟨rfl, hU18⟩
      clear T18
      have u18 : Up w17 w18 := hU18
      replace U := Up.trans U u18
      replace XXVx := Lib.hid (XXVx.out.up u18)
      replace XXVy := Lib.hid (XXVy.out.up u18)
      replace Vw := Lib.hid (Vw.out.up u18)
      replace bxx := Blk.up bxx u18
      replace bxy := Blk.up bxy u18
      replace bv := Blk.up bv u18
      replace bw := Blk.up bw u18
      clear hU18 u18
      have s18 := (And.intro (tri bxx) (And.intro (tri bxy) (And.intro (tri bv) (tri bw))))
      go_wp2_with fail
      refine hK.out _ _ s18 (fun _ => ?_)
      clear hK K'
      try simp only [Act.put, List.setIfInBounds_toArray, List.set_cons_zero, List.set_cons_succ]
      clear s17
      refine wpSched_take (i := 20) (v := ?_) (by as_aux_lemma => rw [HO11.out]; simp only [List.getElem?_toArray, List.getElem?_cons_succ, List.getElem?_cons_zero]; rfl) (Or.inl ⟨(by as_aux_lemma => rw [HO11.out]; rfl), ?_⟩) ?_
      rotate_left
      · as_aux_lemma => intro wx hSx; (try dsimp only at hSx); go_simp; try with_reducible rfl
      try simp only [Act.put, List.setIfInBounds_toArray, List.set_cons_zero, List.set_cons_succ]
      refine wpSched_take (i := 21) (v := ?_) (by as_aux_lemma => rw [HO11.out]; simp only [List.getElem?_toArray, List.getElem?_cons_succ, List.getElem?_cons_zero]; rfl) (Or.inl ⟨(by rfl), ?_⟩) ?_
      rotate_left
      · as_aux_lemma => intro wx hSx; (try dsimp only at hSx); go_simp; try with_reducible rfl
      try simp only [Act.put, List.setIfInBounds_toArray, List.set_cons_zero, List.set_cons_succ]
      refine wpSched_take (i := 22) (v := ?_) (by as_aux_lemma => rw [HO11.out]; simp only [List.getElem?_toArray, List.getElem?_cons_succ, List.getElem?_cons_zero]; rfl) (Or.inl ⟨(by rfl), ?_⟩) ?_
      rotate_left
      · as_aux_lemma => intro wx hSx; (try dsimp only at hSx); go_simp; try with_reducible rfl
      try simp only [Act.put, List.setIfInBounds_toArray, List.set_cons_zero, List.set_cons_succ]
      refine wpSched_take (i := 23) (v := ?_) (by as_aux_lemma => rw [HO11.out]; simp only [List.getElem?_toArray, List.getElem?_cons_succ, List.getElem?_cons_zero]; rfl) (Or.inl ⟨(by as_aux_lemma => rw [HO11.out]; rfl), ?_⟩) ?_
      rotate_left
      · as_aux_lemma => intro wx hSx; (try dsimp only at hSx); go_simp; try with_reducible rfl
      try simp only [Act.put, List.setIfInBounds_toArray, List.set_cons_zero, List.set_cons_succ]
      refine wpSched_take (i := 25) (v := ?_) (by as_aux_lemma => rw [HO11.out]; simp only [List.getElem?_toArray, List.getElem?_cons_succ, List.getElem?_cons_zero]; rfl) (Or.inl ⟨(by as_aux_lemma => rw [HO11.out]; rfl), ?_⟩) ?_
      rotate_left
      · as_aux_lemma => intro wx hSx; (try dsimp only at hSx); go_simp; try with_reducible rfl
      try simp only [Act.put, List.setIfInBounds_toArray, List.set_cons_zero, List.set_cons_succ]
      refine wpSched_call (i := 24) (by as_aux_lemma => rw [HO11.out]; simp only [List.getElem?_toArray, List.getElem?_cons_succ, List.getElem?_cons_zero]; rfl) (by as_aux_lemma => rw [HO11.out]; rfl) (fun K' hK => ?_)
      go_simp
      go_at_call 14
      refine (format_q Vw.out (by omega) (HT.out.up U)).mono ?_
      rintro e w19 ⟨he19, hU19⟩
      rw [← HTX.out] at he19
      subst he19
      have u19 : Up w18 w19 := hU19
      replace U := Up.trans U u19
      replace XXVx := Lib.hid (XXVx.out.up u19)
      replace XXVy := Lib.hid (XXVy.out.up u19)
      replace Vw := Lib.hid (Vw.out.up u19)
      replace bxx := Blk.up bxx u19
      replace bxy := Blk.up bxy u19
      replace bv := Blk.up bv u19
      replace bw := Blk.up bw u19
      clear hU19 u19
      have s19 := (And.intro (tri bxx) (And.intro (tri bxy) (And.intro (tri bv) (tri bw))))
      go_wp2_with fail
      refine hK.out _ _ s19 (fun _ => ?_)
      clear hK K'
      try simp only [Act.put, List.setIfInBounds_toArray, List.set_cons_zero, List.set_cons_succ]
      clear s18
      refine wpSched_call (i := 26) (by as_aux_lemma => rw [HO11.out]; simp only [List.getElem?_toArray, List.getElem?_cons_succ, List.getElem?_cons_zero]; rfl) (by as_aux_lemma => rw [HO11.out]; rfl) (fun K' hK => ?_)
      go_simp
      go_at_call 14
      refine (format_q XXVx.out (by omega) (HT.out.up U)).mono ?_
      rintro e w20 ⟨he20, hU20⟩
      rw [← HTX.out] at he20
      subst he20
      have u20 : Up w19 w20 := hU20
      replace U := Up.trans U u20
      replace XXVx := Lib.hid (XXVx.out.up u20)
      replace XXVy := Lib.hid (XXVy.out.up u20)
      replace Vw := Lib.hid (Vw.out.up u20)
      replace bxx := Blk.up bxx u20
      replace bxy := Blk.up bxy u20
      replace bv := Blk.up bv u20
      replace bw := Blk.up bw u20
      clear hU20 u20
      have s20 := (And.intro (tri bxx) (And.intro (tri bxy) (And.intro (tri bv) (tri bw))))
      go_wp2_with fail
      refine hK.out _ _ s20 (fun _ => ?_)
      clear hK K'
      try simp only [Act.put, List.setIfInBounds_toArray, List.set_cons_zero, List.set_cons_succ]
      clear s19
      refine wpSched_take (i := 27) (v := ?_) (by as_aux_lemma => rw [HO11.out]; simp only [List.getElem?_toArray, List.getElem?_cons_succ, List.getElem?_cons_zero]; rfl) (Or.inl ⟨(by as_aux_lemma => rw [HO11.out]; rfl), ?_⟩) ?_
      rotate_left
      · as_aux_lemma => intro wx hSx; (try dsimp only at hSx); go_simp; try with_reducible rfl
      try simp only [Act.put, List.setIfInBounds_toArray, List.set_cons_zero, List.set_cons_succ]
      refine wpSched_take (i := 28) (v := ?_) (by as_aux_lemma => rw [HO11.out]; simp only [List.getElem?_toArray, List.getElem?_cons_succ, List.getElem?_cons_zero]; rfl) (Or.inl ⟨(by rfl), ?_⟩) ?_
      rotate_left
      · as_aux_lemma => intro wx hSx; (try dsimp only at hSx); go_simp; try with_reducible rfl
      try simp only [Act.put, List.setIfInBounds_toArray, List.set_cons_zero, List.set_cons_succ]
      refine wpSched_take (i := 29) (v := ?_) (by as_aux_lemma => rw [HO11.out]; simp only [List.getElem?_toArray, List.getElem?_cons_succ, List.getElem?_cons_zero]; rfl) (Or.inl ⟨(by rfl), ?_⟩) ?_
      rotate_left
      · as_aux_lemma => intro wx hSx; (try dsimp only at hSx); go_simp; try with_reducible rfl
      try simp only [Act.put, List.setIfInBounds_toArray, List.set_cons_zero, List.set_cons_succ]
      refine wpSched_call (i := 30) (by as_aux_lemma => rw [HO11.out]; simp only [List.getElem?_toArray, List.getElem?_cons_succ, List.getElem?_cons_zero]; rfl) (by as_aux_lemma => rw [HO11.out]; rfl) (fun K' hK => ?_)
      go_simp
      go_at_call 15
      refine (awake01_any _).mono ?_
      rintro e w21 ⟨rfl, hU21⟩
      have u21 : Up w20 w21 := hU21
      replace U := Up.trans U u21
      replace XXVx := Lib.hid (XXVx.out.up u21)
      replace XXVy := Lib.hid (XXVy.out.up u21)
      replace Vw := Lib.hid (Vw.out.up u21)
      replace bxx := Blk.up bxx u21
      replace bxy := Blk.up bxy u21
      replace bv := Blk.up bv u21
      replace bw := Blk.up bw u21
      clear hU21 u21
      have s21 := (And.intro (tri bxx) (And.intro (tri bxy) (And.intro (tri bv) (tri bw))))
      go_wp2_with fail
      refine hK.out _ _ s21 (fun _ => ?_)
      clear hK K'
      try simp only [Act.put, List.setIfInBounds_toArray, List.set_cons_zero, List.set_cons_succ]
      clear s20
      refine wpSched_take (i := 31) (v := ?_) (by as_aux_lemma => rw [HO11.out]; simp only [List.getElem?_toArray, List.getElem?_cons_succ, List.getElem?_cons_zero]; rfl) (Or.inl ⟨(by rfl), ?_⟩) ?_
      rotate_left
      · as_aux_lemma => intro wx hSx; (try dsimp only at hSx); go_simp; try with_reducible rfl
      try simp only [Act.put, List.setIfInBounds_toArray, List.set_cons_zero, List.set_cons_succ]
      refine wpSched_take (i := 32) (v := ?_) (by as_aux_lemma => rw [HO11.out]; simp only [List.getElem?_toArray, List.getElem?_cons_succ, List.getElem?_cons_zero]; rfl) (Or.inl ⟨(by rfl), ?_⟩) ?_
      rotate_left
      · as_aux_lemma => intro wx hSx; (try dsimp only at hSx); go_simp; try with_reducible rfl
      try simp only [Act.put, List.setIfInBounds_toArray, List.set_cons_zero, List.set_cons_succ]
      refine wpSched_end (NoPanic.normal ?_)
      clear HO11 O11 s21
      obtain ⟨bxxa, bxxb, bxxc⟩ := tri bxx
      obtain ⟨bxya, bxyb, bxyc⟩ := tri bxy
      obtain ⟨bva, bvb, bvc⟩ := tri bv
      obtain ⟨bwa, bwb, bwc⟩ := tri bw
      go_wp2_with fail
      go_ret
      exact ⟨rfl, U⟩
end Go.Proofs.YtefiapjfiojaoaaDoor
