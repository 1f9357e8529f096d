/-
  RationalOrder: for every three rational numbers, in whatever form, the law returns true. Conditions: none.
-/
import Derived.Test.YtoedmnalnpmleaaRFrame
import Derived.Test.YtoedmnalnpmleaaSched
namespace Go.Proofs.Ytoedmnalnpmleaa
open Go.RowKit

theorem sgn_bound (q : Rat) : -1 ≤ sgn q ∧ sgn q ≤ 1 := by
  rcases sgn_cases q with ⟨_, h⟩ | ⟨_, h⟩ | ⟨_, h⟩ <;> rw [h] <;> omega
theorem sgn_three (q : Rat) : sgn q = -1 ∨ sgn q = 0 ∨ sgn q = 1 := by
  rcases sgn_cases q with ⟨_, h⟩ | ⟨_, h⟩ | ⟨_, h⟩
  · exact .inl h
  · exact .inr (.inl h)
  · exact .inr (.inr h)
theorem sgn_swap (x y : Rat) : sgn (x - y) = -sgn (y - x) := by
  rcases sgn_cases (x - y) with ⟨h, e⟩ | ⟨h, e⟩ | ⟨h, e⟩ <;> rw [e]
  · rw [sgn_pos (show 0 < y - x by grind)]
  · rw [show y - x = 0 by grind, sgn_zero]; rfl
  · rw [sgn_neg (show y - x < 0 by grind)]; rfl
theorem sgn_one {z : Rat} (h : sgn z = 1) : 0 < z := by
  rcases sgn_cases z with ⟨h1, e⟩ | ⟨h1, e⟩ | ⟨h1, e⟩
  · rw [e] at h; omega
  · rw [e] at h; omega
  · exact h1
theorem sgn_le {q : Rat} : sgn q ≤ 0 ↔ q ≤ 0 := by
  rcases sgn_cases q with ⟨h1, e⟩ | ⟨h1, e⟩ | ⟨h1, e⟩ <;> rw [e]
  · exact ⟨fun _ => by grind, fun _ => by omega⟩
  · exact ⟨fun _ => by grind, fun _ => by omega⟩
  · exact ⟨fun h => by omega, fun h => by grind⟩
theorem RationalOrder_trans {x y z : Rat} : sgn (x - y) ≤ 0 → sgn (y - z) ≤ 0 → sgn (x - z) ≤ 0 := by
  rw [sgn_le, sgn_le, sgn_le]
  intro h1 h2
  grind
theorem RationalOrder_same {qa qb x y : Rat} {c : Int} (ea : qa = x) (eb : qb = y) (hc : c = sgn (x - y)) : decide (qa = qb) = (c == 0) := by
  subst ea eb hc
  rw [Bool.eq_iff_iff]
  simp only [decide_eq_true_eq, beq_iff_eq]
  rcases sgn_cases (qa - qb) with ⟨h1, e⟩ | ⟨h1, e⟩ | ⟨h1, e⟩ <;> rw [e]
  · exact ⟨fun h => by grind, fun h => by omega⟩
  · exact ⟨fun h => rfl, fun h => by grind⟩
  · exact ⟨fun h => by grind, fun h => by omega⟩
theorem sgn_mul {a z : Rat} (hz : 0 < z) : sgn (a * z) = sgn a := by
  rcases sgn_cases a with ⟨h1, e⟩ | ⟨h1, e⟩ | ⟨h1, e⟩ <;> rw [e]
  · have := Rat.mul_pos (show 0 < -a by grind) hz
    exact sgn_neg (by grind)
  · rw [h1, Rat.zero_mul, sgn_zero]
  · exact sgn_pos (Rat.mul_pos h1 hz)
theorem RationalOrder_mul {qa qb x y z : Rat} (ea : qa = x * z) (eb : qb = y * z) (hz : 0 < z) : sgn (qa - qb) = sgn (x - y) := by
  rw [ea, eb, show x * z - y * z = (x - y) * z by grind, sgn_mul hz]
theorem RationalOrder_add {qa qb x y z : Rat} (ea : qa = x + z) (eb : qb = y + z) : sgn (qa - qb) = sgn (x - y) := by
  rw [ea, eb, show x + z - (y + z) = x - y by grind]


set_option maxRecDepth 100000 in
set_option maxHeartbeats 12800000 in
theorem RationalOrder_walk (vx : Value) (sx : Bool) (xsx ysx : List Nat) (vy : Value) (sy : Bool) (xsy ysy : List Nat) (vz : Value) (sz : Bool) (xsz ysz : List Nat) (w : World) (Rx : RV w vx sx xsx ysx) (Ry : RV w vy sy xsy ysy) (Rz : RV w vz sz xsz ysz) :
    Calls Try.prog 4 #[vx, vy, vz] w fun e w' => e = .returned (.bool true) ∧ Up w w' := by
  obtain ⟨Ax, cx, Bx, dx, hvx, lx, mx⟩ := Rx.shape
  obtain ⟨Ay, cy, By, dy, hvy, ly, my⟩ := Ry.shape
  obtain ⟨Az, cz, Bz, dz, hvz, lz, mz⟩ := Rz.shape
  have Kx := fun (wx : World) => keepRat_any sx Ax Bx xsx.length ysx.length cx dx wx lx mx
  have Ky := fun (wx : World) => keepRat_any sy Ay By xsy.length ysy.length cy dy wx ly my
  have Kz := fun (wx : World) => keepRat_any sz Az Bz xsz.length ysz.length cz dz wx lz mz
  by_cases kx : xsx.length ≤ 8 ∧ ysx.length ≤ 8
  case neg =>
    rw [show (decide (xsx.length ≤ 8) && decide (ysx.length ≤ 8)) = false from by rw [← Bool.decide_and, decide_eq_false_iff_not]; exact kx] at Kx
    replace Kx := Lib.hid Kx
    subst hvx hvy hvz
    clear Ky Ry Kz Rz Rx kx 
    go_enter Try.func4, Try.ntmps4
    go_wp2_with fail
    obtain ⟨w0, hw0⟩ : ∃ wx, wx = (((w.alloc (Obj.cells #[.bool sx, .slice Ax xsx.length cx, .slice Bx ysx.length dx] 24)).alloc (Obj.cells #[.bool sy, .slice Ay xsy.length cy, .slice By ysy.length dy] 24)).alloc (Obj.cells #[.bool sz, .slice Az xsz.length cz, .slice Bz ysz.length dz] 24)) := ⟨_, rfl⟩
    have U : Up w w0 := by rw [hw0]; exact Below.alloc (Below.alloc (Below.alloc (Below.refl _ _) (Nat.le_refl _) _) (by (simp <;> omega)) _) (by (simp <;> omega)) _
    have bxx : Blk w0 (w.heap.size) 24 #[.bool sx, .slice Ax xsx.length cx, .slice Bx ysx.length dx] := by rw [hw0]; exact Blk.alloc (Blk.alloc (Blk.new' _ _ _ (by simp)) _) _
    have bxy : Blk w0 (w.heap.size + 1) 24 #[.bool sy, .slice Ay xsy.length cy, .slice By ysy.length dy] := by rw [hw0]; exact Blk.alloc (Blk.new' _ _ _ (by simp)) _
    have bxz : Blk w0 (w.heap.size + 2) 24 #[.bool sz, .slice Az xsz.length cz, .slice Bz ysz.length dz] := by rw [hw0]; exact Blk.new' _ _ _ (by simp)
    rw [← hw0]
    clear hw0
    obtain ⟨bxxa, bxxb, bxxc⟩ := tri bxx
    obtain ⟨bxya, bxyb, bxyc⟩ := tri bxy
    obtain ⟨bxza, bxzb, bxzc⟩ := tri bxz
    refine (Kx.out w0).mono ?_
    rintro e w1 ⟨rfl, hU1⟩
    have u1 : Up w0 w1 := hU1
    replace U := Up.trans U u1
    replace bxx := Blk.up bxx u1
    replace bxy := Blk.up bxy u1
    replace bxz := Blk.up bxz u1
    clear hU1 u1
    clear bxxa bxxb bxxc bxya bxyb bxyc bxza bxzb bxzc
    obtain ⟨bxxa, bxxb, bxxc⟩ := tri bxx
    obtain ⟨bxya, bxyb, bxyc⟩ := tri bxy
    obtain ⟨bxza, bxzb, bxzc⟩ := tri bxz
    go_wp2_with fail
    go_ret
    exact ⟨rfl, U⟩
  rw [show (decide (xsx.length ≤ 8) && decide (ysx.length ≤ 8)) = true from by rw [← Bool.decide_and, decide_eq_true_iff]; exact kx] at Kx
  have Ix := Lib.hid (Rx.iv kx.1 kx.2)
  obtain ⟨x, hx⟩ : ∃ q, q = fq sx (nv xsx) (nv ysx) := ⟨_, rfl⟩
  rw [← hx] at Ix
  have Sx : Hid (qs x ≤ 9) := Lib.hid Ix.out.qs
  replace Kx := Lib.hid Kx
  clear hx kx
  by_cases ky : xsy.length ≤ 8 ∧ ysy.length ≤ 8
  case neg =>
    rw [show (decide (xsy.length ≤ 8) && decide (ysy.length ≤ 8)) = false from by rw [← Bool.decide_and, decide_eq_false_iff_not]; exact ky] at Ky
    replace Ky := Lib.hid Ky
    subst hvx hvy hvz
    clear Kz Rz Ry ky Rx
    go_enter Try.func4, Try.ntmps4
    go_wp2_with fail
    obtain ⟨w0, hw0⟩ : ∃ wx, wx = (((w.alloc (Obj.cells #[.bool sx, .slice Ax xsx.length cx, .slice Bx ysx.length dx] 24)).alloc (Obj.cells #[.bool sy, .slice Ay xsy.length cy, .slice By ysy.length dy] 24)).alloc (Obj.cells #[.bool sz, .slice Az xsz.length cz, .slice Bz ysz.length dz] 24)) := ⟨_, rfl⟩
    have U : Up w w0 := by rw [hw0]; exact Below.alloc (Below.alloc (Below.alloc (Below.refl _ _) (Nat.le_refl _) _) (by (simp <;> omega)) _) (by (simp <;> omega)) _
    have bxx : Blk w0 (w.heap.size) 24 #[.bool sx, .slice Ax xsx.length cx, .slice Bx ysx.length dx] := by rw [hw0]; exact Blk.alloc (Blk.alloc (Blk.new' _ _ _ (by simp)) _) _
    have bxy : Blk w0 (w.heap.size + 1) 24 #[.bool sy, .slice Ay xsy.length cy, .slice By ysy.length dy] := by rw [hw0]; exact Blk.alloc (Blk.new' _ _ _ (by simp)) _
    have bxz : Blk w0 (w.heap.size + 2) 24 #[.bool sz, .slice Az xsz.length cz, .slice Bz ysz.length dz] := by rw [hw0]; exact Blk.new' _ _ _ (by simp)
    rw [← hw0]
    clear hw0
    obtain ⟨bxxa, bxxb, bxxc⟩ := tri bxx
    obtain ⟨bxya, bxyb, bxyc⟩ := tri bxy
    obtain ⟨bxza, bxzb, bxzc⟩ := tri bxz
    refine (Kx.out w0).mono ?_
    rintro e w1 ⟨rfl, hU1⟩
    have u1 : Up w0 w1 := hU1
    replace U := Up.trans U u1
    replace bxx := Blk.up bxx u1
    replace bxy := Blk.up bxy u1
    replace bxz := Blk.up bxz u1
    clear hU1 u1
    clear bxxa bxxb bxxc bxya bxyb bxyc bxza bxzb bxzc
    obtain ⟨bxxa, bxxb, bxxc⟩ := tri bxx
    obtain ⟨bxya, bxyb, bxyc⟩ := tri bxy
    obtain ⟨bxza, bxzb, bxzc⟩ := tri bxz
    go_wp2_with fail
    refine (Ky.out w1).mono ?_
    rintro e w2 ⟨rfl, hU2⟩
    have u2 : Up w1 w2 := hU2
    replace U := Up.trans U u2
    replace bxx := Blk.up bxx u2
    replace bxy := Blk.up bxy u2
    replace bxz := Blk.up bxz u2
    clear hU2 u2
    clear bxxa bxxb bxxc bxya bxyb bxyc bxza bxzb bxzc
    obtain ⟨bxxa, bxxb, bxxc⟩ := tri bxx
    obtain ⟨bxya, bxyb, bxyc⟩ := tri bxy
    obtain ⟨bxza, bxzb, bxzc⟩ := tri bxz
    go_wp2_with fail
    go_ret
    exact ⟨rfl, U⟩
  rw [show (decide (xsy.length ≤ 8) && decide (ysy.length ≤ 8)) = true from by rw [← Bool.decide_and, decide_eq_true_iff]; exact ky] at Ky
  have Iy := Lib.hid (Ry.iv ky.1 ky.2)
  obtain ⟨y, hy⟩ : ∃ q, q = fq sy (nv xsy) (nv ysy) := ⟨_, rfl⟩
  rw [← hy] at Iy
  have Sy : Hid (qs y ≤ 9) := Lib.hid Iy.out.qs
  replace Ky := Lib.hid Ky
  clear hy ky
  by_cases kz : xsz.length ≤ 8 ∧ ysz.length ≤ 8
  case neg =>
    rw [show (decide (xsz.length ≤ 8) && decide (ysz.length ≤ 8)) = false from by rw [← Bool.decide_and, decide_eq_false_iff_not]; exact kz] at Kz
    replace Kz := Lib.hid Kz
    subst hvx hvy hvz
    clear  Rz kz Rx Ry
    go_enter Try.func4, Try.ntmps4
    go_wp2_with fail
    obtain ⟨w0, hw0⟩ : ∃ wx, wx = (((w.alloc (Obj.cells #[.bool sx, .slice Ax xsx.length cx, .slice Bx ysx.length dx] 24)).alloc (Obj.cells #[.bool sy, .slice Ay xsy.length cy, .slice By ysy.length dy] 24)).alloc (Obj.cells #[.bool sz, .slice Az xsz.length cz, .slice Bz ysz.length dz] 24)) := ⟨_, rfl⟩
    have U : Up w w0 := by rw [hw0]; exact Below.alloc (Below.alloc (Below.alloc (Below.refl _ _) (Nat.le_refl _) _) (by (simp <;> omega)) _) (by (simp <;> omega)) _
    have bxx : Blk w0 (w.heap.size) 24 #[.bool sx, .slice Ax xsx.length cx, .slice Bx ysx.length dx] := by rw [hw0]; exact Blk.alloc (Blk.alloc (Blk.new' _ _ _ (by simp)) _) _
    have bxy : Blk w0 (w.heap.size + 1) 24 #[.bool sy, .slice Ay xsy.length cy, .slice By ysy.length dy] := by rw [hw0]; exact Blk.alloc (Blk.new' _ _ _ (by simp)) _
    have bxz : Blk w0 (w.heap.size + 2) 24 #[.bool sz, .slice Az xsz.length cz, .slice Bz ysz.length dz] := by rw [hw0]; exact Blk.new' _ _ _ (by simp)
    rw [← hw0]
    clear hw0
    obtain ⟨bxxa, bxxb, bxxc⟩ := tri bxx
    obtain ⟨bxya, bxyb, bxyc⟩ := tri bxy
    obtain ⟨bxza, bxzb, bxzc⟩ := tri bxz
    refine (Kx.out w0).mono ?_
    rintro e w1 ⟨rfl, hU1⟩
    have u1 : Up w0 w1 := hU1
    replace U := Up.trans U u1
    replace bxx := Blk.up bxx u1
    replace bxy := Blk.up bxy u1
    replace bxz := Blk.up bxz u1
    clear hU1 u1
    clear bxxa bxxb bxxc bxya bxyb bxyc bxza bxzb bxzc
    obtain ⟨bxxa, bxxb, bxxc⟩ := tri bxx
    obtain ⟨bxya, bxyb, bxyc⟩ := tri bxy
    obtain ⟨bxza, bxzb, bxzc⟩ := tri bxz
    go_wp2_with fail
    refine (Ky.out w1).mono ?_
    rintro e w2 ⟨rfl, hU2⟩
    have u2 : Up w1 w2 := hU2
    replace U := Up.trans U u2
    replace bxx := Blk.up bxx u2
    replace bxy := Blk.up bxy u2
    replace bxz := Blk.up bxz u2
    clear hU2 u2
    clear bxxa bxxb bxxc bxya bxyb bxyc bxza bxzb bxzc
    obtain ⟨bxxa, bxxb, bxxc⟩ := tri bxx
    obtain ⟨bxya, bxyb, bxyc⟩ := tri bxy
    obtain ⟨bxza, bxzb, bxzc⟩ := tri bxz
    go_wp2_with fail
    refine (Kz.out w2).mono ?_
    rintro e w3 ⟨rfl, hU3⟩
    have u3 : Up w2 w3 := hU3
    replace U := Up.trans U u3
    replace bxx := Blk.up bxx u3
    replace bxy := Blk.up bxy u3
    replace bxz := Blk.up bxz u3
    clear hU3 u3
    clear bxxa bxxb bxxc bxya bxyb bxyc bxza bxzb bxzc
    obtain ⟨bxxa, bxxb, bxxc⟩ := tri bxx
    obtain ⟨bxya, bxyb, bxyc⟩ := tri bxy
    obtain ⟨bxza, bxzb, bxzc⟩ := tri bxz
    go_wp2_with fail
    go_ret
    exact ⟨rfl, U⟩
  rw [show (decide (xsz.length ≤ 8) && decide (ysz.length ≤ 8)) = true from by rw [← Bool.decide_and, decide_eq_true_iff]; exact kz] at Kz
  have Iz := Lib.hid (Rz.iv kz.1 kz.2)
  obtain ⟨z, hz⟩ : ∃ q, q = fq sz (nv xsz) (nv ysz) := ⟨_, rfl⟩
  rw [← hz] at Iz
  have Sz : Hid (qs z ≤ 9) := Lib.hid Iz.out.qs
  replace Kz := Lib.hid Kz
  clear hz kz
  subst hvx hvy hvz
  clear Rx Ry Rz
  go_enter Try.func4, Try.ntmps4
  go_wp2_with fail
  obtain ⟨w0, hw0⟩ : ∃ wx, wx = (((w.alloc (Obj.cells #[.bool sx, .slice Ax xsx.length cx, .slice Bx ysx.length dx] 24)).alloc (Obj.cells #[.bool sy, .slice Ay xsy.length cy, .slice By ysy.length dy] 24)).alloc (Obj.cells #[.bool sz, .slice Az xsz.length cz, .slice Bz ysz.length dz] 24)) := ⟨_, rfl⟩
  have U : Up w w0 := by rw [hw0]; exact Below.alloc (Below.alloc (Below.alloc (Below.refl _ _) (Nat.le_refl _) _) (by (simp <;> omega)) _) (by (simp <;> omega)) _
  have bxx : Blk w0 (w.heap.size) 24 #[.bool sx, .slice Ax xsx.length cx, .slice Bx ysx.length dx] := by rw [hw0]; exact Blk.alloc (Blk.alloc (Blk.new' _ _ _ (by simp)) _) _
  have bxy : Blk w0 (w.heap.size + 1) 24 #[.bool sy, .slice Ay xsy.length cy, .slice By ysy.length dy] := by rw [hw0]; exact Blk.alloc (Blk.new' _ _ _ (by simp)) _
  have bxz : Blk w0 (w.heap.size + 2) 24 #[.bool sz, .slice Az xsz.length cz, .slice Bz ysz.length dz] := by rw [hw0]; exact Blk.new' _ _ _ (by simp)
  rw [← hw0]
  clear hw0
  obtain ⟨bxxa, bxxb, bxxc⟩ := tri bxx
  obtain ⟨bxya, bxyb, bxyc⟩ := tri bxy
  obtain ⟨bxza, bxzb, bxzc⟩ := tri bxz
  have Vx := Lib.hid (Ix.out.up U)
  have Vy := Lib.hid (Iy.out.up U)
  have Vz := Lib.hid (Iz.out.up U)
  refine (Kx.out w0).mono ?_
  rintro e w1 ⟨rfl, hU1⟩
  have u1 : Up w0 w1 := hU1
  replace U := Up.trans U u1
  replace Vx := Lib.hid (Vx.out.up u1)
  replace Vy := Lib.hid (Vy.out.up u1)
  replace Vz := Lib.hid (Vz.out.up u1)
  replace bxx := Blk.up bxx u1
  replace bxy := Blk.up bxy u1
  replace bxz := Blk.up bxz u1
  clear hU1 u1
  clear bxxa bxxb bxxc bxya bxyb bxyc bxza bxzb bxzc
  obtain ⟨bxxa, bxxb, bxxc⟩ := tri bxx
  obtain ⟨bxya, bxyb, bxyc⟩ := tri bxy
  obtain ⟨bxza, bxzb, bxzc⟩ := tri bxz
  go_wp2_with fail
  refine (Ky.out w1).mono ?_
  rintro e w2 ⟨rfl, hU2⟩
  have u2 : Up w1 w2 := hU2
  replace U := Up.trans U u2
  replace Vx := Lib.hid (Vx.out.up u2)
  replace Vy := Lib.hid (Vy.out.up u2)
  replace Vz := Lib.hid (Vz.out.up u2)
  replace bxx := Blk.up bxx u2
  replace bxy := Blk.up bxy u2
  replace bxz := Blk.up bxz u2
  clear hU2 u2
  clear bxxa bxxb bxxc bxya bxyb bxyc bxza bxzb bxzc
  obtain ⟨bxxa, bxxb, bxxc⟩ := tri bxx
  obtain ⟨bxya, bxyb, bxyc⟩ := tri bxy
  obtain ⟨bxza, bxzb, bxzc⟩ := tri bxz
  go_wp2_with fail
  refine (Kz.out w2).mono ?_
  rintro e w3 ⟨rfl, hU3⟩
  have u3 : Up w2 w3 := hU3
  replace U := Up.trans U u3
  replace Vx := Lib.hid (Vx.out.up u3)
  replace Vy := Lib.hid (Vy.out.up u3)
  replace Vz := Lib.hid (Vz.out.up u3)
  replace bxx := Blk.up bxx u3
  replace bxy := Blk.up bxy u3
  replace bxz := Blk.up bxz u3
  clear hU3 u3
  clear bxxa bxxb bxxc bxya bxyb bxyc bxza bxzb bxzc
  obtain ⟨bxxa, bxxb, bxxc⟩ := tri bxx
  obtain ⟨bxya, bxyb, bxyc⟩ := tri bxy
  obtain ⟨bxza, bxzb, bxzc⟩ := tri bxz
  obtain ⟨c, hc⟩ : ∃ c, c = sgn (x - y) := ⟨_, rfl⟩
  obtain ⟨d, hd⟩ : ∃ d, d = sgn (y - z) := ⟨_, rfl⟩
  obtain ⟨e9, he⟩ : ∃ d, d = sgn (x - z) := ⟨_, rfl⟩
  have HC := Lib.hid hc
  have HD := Lib.hid hd
  have HE := Lib.hid he
  obtain ⟨hc1, hc2⟩ := sgn_bound (x - y)
  rw [← hc] at hc1 hc2
  have htr := RationalOrder_trans (x := x) (y := y) (z := z)
  rw [← hc, ← hd, ← he] at htr
  have hw9 : IntKind.i64.wrap c = c := IntWalk.i64_in _ (by omega)
  clear hc hd he
  go_wp2_with fail
  have T4 := cmp_q Vx.out Vy.out (by omega)
  rw [← HC.out] at T4
  refine T4.mono ?_
  rintro e w4 ⟨rfl, hU4⟩
  clear T4
  have u4 : Up w3 w4 := hU4
  replace U := Up.trans U u4
  replace Vx := Lib.hid (Vx.out.up u4)
  replace Vy := Lib.hid (Vy.out.up u4)
  replace Vz := Lib.hid (Vz.out.up u4)
  replace bxx := Blk.up bxx u4
  replace bxy := Blk.up bxy u4
  replace bxz := Blk.up bxz u4
  clear hU4 u4
  clear bxxa bxxb bxxc bxya bxyb bxyc bxza bxzb bxzc
  obtain ⟨bxxa, bxxb, bxxc⟩ := tri bxx
  obtain ⟨bxya, bxyb, bxyc⟩ := tri bxy
  obtain ⟨bxza, bxzb, bxzc⟩ := tri bxz
  go_wp2_with fail
  clear bxxa bxxb bxxc bxya bxyb bxyc bxza bxzb bxzc
  have s5 := (And.intro (tri bxx) (And.intro (tri bxy) (tri bxz)))
  refine wp_region_noPanic ?_
  refine wp_region_sched (S := (fun wx => (wx.cell? ⟨w.heap.size, 0, none⟩ = some (.bool sx) ∧ wx.cell? ⟨w.heap.size, 1, none⟩ = some (.slice Ax xsx.length cx) ∧ wx.cell? ⟨w.heap.size, 2, none⟩ = some (.slice Bx ysx.length dx)) ∧ (wx.cell? ⟨w.heap.size + 1, 0, none⟩ = some (.bool sy) ∧ wx.cell? ⟨w.heap.size + 1, 1, none⟩ = some (.slice Ay xsy.length cy) ∧ wx.cell? ⟨w.heap.size + 1, 2, none⟩ = some (.slice By ysy.length dy)) ∧ (wx.cell? ⟨w.heap.size + 2, 0, none⟩ = some (.bool sz) ∧ wx.cell? ⟨w.heap.size + 2, 1, none⟩ = some (.slice Az xsz.length cz) ∧ wx.cell? ⟨w.heap.size + 2, 2, none⟩ = some (.slice Bz ysz.length dz)))) [(0, false), (1, false), (2, false), (3, true), (4, false), (5, false), (6, false), (7, false), (8, false), (9, false), (11, false), (10, true), (12, true), (13, true), (14, false), (15, false)] (by kernel_rfl) (by as_aux_lemma => kernel_rfl) (by as_aux_lemma => kernel_rfl) (by as_aux_lemma => kernel_rfl) (fun _ _ _ _ _ h => h) s5 ?_
  intro O5 HO5
  refine wpSched_take (i := 0) (v := ?_) (by as_aux_lemma => rw [HO5.out]; simp only [List.getElem?_toArray, List.getElem?_cons_zero]; rfl) (Or.inl ⟨(by rfl), ?_⟩) ?_
  rotate_left
  · as_aux_lemma => intro wx hSx; (try dsimp only at hSx); go_simp; try with_reducible rfl
  try simp only [Act.put, List.setIfInBounds_toArray, List.set_cons_zero, List.set_cons_succ]
  refine wpSched_take (i := 1) (v := ?_) (by as_aux_lemma => rw [HO5.out]; simp only [List.getElem?_toArray, List.getElem?_cons_succ, List.getElem?_cons_zero]; rfl) (Or.inl ⟨(by rfl), ?_⟩) ?_
  rotate_left
  · as_aux_lemma => intro wx hSx; (try dsimp only at hSx); go_simp; try with_reducible rfl
  try simp only [Act.put, List.setIfInBounds_toArray, List.set_cons_zero, List.set_cons_succ]
  refine wpSched_take (i := 2) (v := ?_) (by as_aux_lemma => rw [HO5.out]; simp only [List.getElem?_toArray, List.getElem?_cons_succ, List.getElem?_cons_zero]; rfl) (Or.inl ⟨(by rfl), ?_⟩) ?_
  rotate_left
  · as_aux_lemma => intro wx hSx; (try dsimp only at hSx); go_simp; try with_reducible rfl
  try simp only [Act.put, List.setIfInBounds_toArray, List.set_cons_zero, List.set_cons_succ]
  refine wpSched_call (i := 3) (by as_aux_lemma => rw [HO5.out]; simp only [List.getElem?_toArray, List.getElem?_cons_succ, List.getElem?_cons_zero]; rfl) (by rfl) (fun K' hK => ?_)
  go_simp
  go_at_call 17
  have T6 := cmp_q (Vy.out.up (Up.refl w4).drew) (Vx.out.up (Up.refl w4).drew) (by omega)
  rw [sgn_swap y x, ← HC.out] at T6
  refine T6.mono ?_
  rintro e w6 ⟨rfl, hU6⟩
  clear T6
  have u6 : Up w4 w6 := Up.trans (Up.refl w4).drew hU6
  replace U := Up.trans U u6
  replace Vx := Lib.hid (Vx.out.up u6)
  replace Vy := Lib.hid (Vy.out.up u6)
  replace Vz := Lib.hid (Vz.out.up u6)
  replace bxx := Blk.up bxx u6
  replace bxy := Blk.up bxy u6
  replace bxz := Blk.up bxz u6
  clear hU6 u6
  have s6 := (And.intro (tri bxx) (And.intro (tri bxy) (tri bxz)))
  go_wp2_with fail
  refine hK.out _ _ s6 (fun _ => ?_)
  clear hK K'
  try simp only [Act.put, List.setIfInBounds_toArray, List.set_cons_zero, List.set_cons_succ]
  clear s5
  refine wpSched_take (i := 4) (v := ?_) (by as_aux_lemma => rw [HO5.out]; simp only [List.getElem?_toArray, List.getElem?_cons_succ, List.getElem?_cons_zero]; rfl) (Or.inl ⟨(by rfl), ?_⟩) ?_
  rotate_left
  · as_aux_lemma => intro wx hSx; (try dsimp only at hSx); go_simp; try with_reducible rfl
  try simp only [Act.put, List.setIfInBounds_toArray, List.set_cons_zero, List.set_cons_succ]
  refine wpSched_take (i := 5) (v := ?_) (by as_aux_lemma => rw [HO5.out]; simp only [List.getElem?_toArray, List.getElem?_cons_succ, List.getElem?_cons_zero]; rfl) (Or.inl ⟨(by rfl), ?_⟩) ?_
  rotate_left
  · as_aux_lemma => intro wx hSx; (try dsimp only at hSx); go_simp; try with_reducible rfl
  try simp only [Act.put, List.setIfInBounds_toArray, List.set_cons_zero, List.set_cons_succ]
  refine wpSched_take (i := 6) (v := ?_) (by as_aux_lemma => rw [HO5.out]; simp only [List.getElem?_toArray, List.getElem?_cons_succ, List.getElem?_cons_zero]; rfl) (Or.inl ⟨(by rfl), ?_⟩) ?_
  rotate_left
  · as_aux_lemma => intro wx hSx; (try dsimp only at hSx); go_simp; try with_reducible rfl
  try simp only [Act.put, List.setIfInBounds_toArray, List.set_cons_zero, List.set_cons_succ]
  refine wpSched_take (i := 7) (v := ?_) (by as_aux_lemma => rw [HO5.out]; simp only [List.getElem?_toArray, List.getElem?_cons_succ, List.getElem?_cons_zero]; rfl) (Or.inl ⟨(by as_aux_lemma => rw [HO5.out]; rfl), ?_⟩) ?_
  rotate_left
  · as_aux_lemma => intro wx hSx; (try dsimp only at hSx); go_simp; try with_reducible rfl
  try simp only [Act.put, List.setIfInBounds_toArray, List.set_cons_zero, List.set_cons_succ]
  refine wpSched_take (i := 8) (v := ?_) (by as_aux_lemma => rw [HO5.out]; simp only [List.getElem?_toArray, List.getElem?_cons_succ, List.getElem?_cons_zero]; rfl) (Or.inl ⟨(by as_aux_lemma => rw [HO5.out]; rfl), ?_⟩) ?_
  rotate_left
  · as_aux_lemma => intro wx hSx; (try dsimp only at hSx); go_simp; try with_reducible rfl
  try simp only [Act.put, List.setIfInBounds_toArray, List.set_cons_zero, List.set_cons_succ]
  refine wpSched_take (i := 9) (v := ?_) (by as_aux_lemma => rw [HO5.out]; simp only [List.getElem?_toArray, List.getElem?_cons_succ, List.getElem?_cons_zero]; rfl) (Or.inl ⟨(by as_aux_lemma => rw [HO5.out]; rfl), ?_⟩) ?_
  rotate_left
  · as_aux_lemma => intro wx hSx; (try dsimp only at hSx); go_simp; try with_reducible rfl
  try simp only [Act.put, List.setIfInBounds_toArray, List.set_cons_zero, List.set_cons_succ]
  refine wpSched_take (i := 11) (v := ?_) (by as_aux_lemma => rw [HO5.out]; simp only [List.getElem?_toArray, List.getElem?_cons_succ, List.getElem?_cons_zero]; rfl) (Or.inl ⟨(by as_aux_lemma => rw [HO5.out]; rfl), ?_⟩) ?_
  rotate_left
  · as_aux_lemma => intro wx hSx; (try dsimp only at hSx); go_simp; try with_reducible rfl
  try simp only [Act.put, List.setIfInBounds_toArray, List.set_cons_zero, List.set_cons_succ]
  refine wpSched_call (i := 10) (by as_aux_lemma => rw [HO5.out]; simp only [List.getElem?_toArray, List.getElem?_cons_succ, List.getElem?_cons_zero]; rfl) (by as_aux_lemma => rw [HO5.out]; rfl) (fun K' hK => ?_)
  go_simp
  go_at_call 13
  refine (canonical_q Vx.out (by omega)).mono ?_
  rintro e w7 ⟨v7, rfl, hQ7, hU7⟩
  obtain ⟨s7x, A7, n7, c7, B7, m7, d7, rfl⟩ := hQ7.shape
  obtain ⟨q7, hq7⟩ : ∃ q, q = x := ⟨_, rfl⟩
  rw [← hq7] at hQ7
  have S7 : Hid (qs q7 ≤ 9) := Lib.hid (by (rw [hq7]; have := trivial; have := Sx.out; omega))
  have E7 := Lib.hid hq7
  clear hq7
  have V7 := Lib.hid hQ7
  clear hQ7
  have u7 : Up w6 w7 := hU7
  replace U := Up.trans U u7
  replace Vx := Lib.hid (Vx.out.up u7)
  replace Vy := Lib.hid (Vy.out.up u7)
  replace Vz := Lib.hid (Vz.out.up u7)
  replace bxx := Blk.up bxx u7
  replace bxy := Blk.up bxy u7
  replace bxz := Blk.up bxz u7
  clear hU7 u7
  have s7 := (And.intro (tri bxx) (And.intro (tri bxy) (tri bxz)))
  go_wp2_with fail
  refine hK.out _ _ s7 (fun _ => ?_)
  clear hK K'
  try simp only [Act.put, List.setIfInBounds_toArray, List.set_cons_zero, List.set_cons_succ]
  clear s6
  refine wpSched_call (i := 12) (by as_aux_lemma => rw [HO5.out]; simp only [List.getElem?_toArray, List.getElem?_cons_succ, List.getElem?_cons_zero]; rfl) (by as_aux_lemma => rw [HO5.out]; rfl) (fun K' hK => ?_)
  go_simp
  go_at_call 13
  refine (canonical_q Vy.out (by omega)).mono ?_
  rintro e w8 ⟨v8, rfl, hQ8, hU8⟩
  obtain ⟨s8x, A8, n8, c8, B8, m8, d8, rfl⟩ := hQ8.shape
  obtain ⟨q8, hq8⟩ : ∃ q, q = y := ⟨_, rfl⟩
  rw [← hq8] at hQ8
  have S8 : Hid (qs q8 ≤ 9) := Lib.hid (by (rw [hq8]; have := trivial; have := Sy.out; omega))
  have E8 := Lib.hid hq8
  clear hq8
  have V8 := Lib.hid hQ8
  clear hQ8
  have u8 : Up w7 w8 := hU8
  replace U := Up.trans U u8
  replace Vx := Lib.hid (Vx.out.up u8)
  replace Vy := Lib.hid (Vy.out.up u8)
  replace Vz := Lib.hid (Vz.out.up u8)
  replace V7 := Lib.hid (V7.out.up u8)
  replace bxx := Blk.up bxx u8
  replace bxy := Blk.up bxy u8
  replace bxz := Blk.up bxz u8
  clear hU8 u8
  have s8 := (And.intro (tri bxx) (And.intro (tri bxy) (tri bxz)))
  go_wp2_with fail
  refine hK.out _ _ s8 (fun _ => ?_)
  clear hK K'
  try simp only [Act.put, List.setIfInBounds_toArray, List.set_cons_zero, List.set_cons_succ]
  clear s7
  refine wpSched_call (i := 13) (by as_aux_lemma => rw [HO5.out]; simp only [List.getElem?_toArray, List.getElem?_cons_succ, List.getElem?_cons_zero]; rfl) (by as_aux_lemma => rw [HO5.out]; rfl) (fun K' hK => ?_)
  go_simp
  go_at_call 11
  have T9 := sameRat_q V7.out V8.out (by have := S7.out; omega) (by have := S8.out; omega)
  rw [show decide (q7 = q8) = (c == 0) from RationalOrder_same E7.out E8.out HC.out] at T9
  refine T9.mono ?_
  rintro e w9 ⟨rfl, hU9⟩
  clear T9
  have u9 : Up w8 w9 := hU9
  replace U := Up.trans U u9
  replace Vx := Lib.hid (Vx.out.up u9)
  replace Vy := Lib.hid (Vy.out.up u9)
  replace Vz := Lib.hid (Vz.out.up u9)
  replace V7 := Lib.hid (V7.out.up u9)
  replace V8 := Lib.hid (V8.out.up u9)
  replace bxx := Blk.up bxx u9
  replace bxy := Blk.up bxy u9
  replace bxz := Blk.up bxz u9
  clear hU9 u9
  have s9 := (And.intro (tri bxx) (And.intro (tri bxy) (tri bxz)))
  go_wp2_with fail
  refine hK.out _ _ s9 (fun _ => ?_)
  clear hK K'
  try simp only [Act.put, List.setIfInBounds_toArray, List.set_cons_zero, List.set_cons_succ]
  clear s8
  refine wpSched_take (i := 14) (v := ?_) (by as_aux_lemma => rw [HO5.out]; simp only [List.getElem?_toArray, List.getElem?_cons_succ, List.getElem?_cons_zero]; rfl) (Or.inl ⟨(by as_aux_lemma => rw [HO5.out]; rfl), ?_⟩) ?_
  rotate_left
  · as_aux_lemma => intro wx hSx; (try dsimp only at hSx); go_simp; try with_reducible rfl
  try simp only [Act.put, List.setIfInBounds_toArray, List.set_cons_zero, List.set_cons_succ]
  refine wpSched_take (i := 15) (v := ?_) (by as_aux_lemma => rw [HO5.out]; simp only [List.getElem?_toArray, List.getElem?_cons_succ, List.getElem?_cons_zero]; rfl) (Or.inl ⟨(by rfl), ?_⟩) ?_
  rotate_left
  · as_aux_lemma => intro wx hSx; (try dsimp only at hSx); go_simp; try with_reducible rfl
  try simp only [Act.put, List.setIfInBounds_toArray, List.set_cons_zero, List.set_cons_succ]
  clear V7 V8
  refine wpSched_end (NoPanic.normal ?_)
  clear HO5 O5 s9
  obtain ⟨bxxa, bxxb, bxxc⟩ := tri bxx
  obtain ⟨bxya, bxyb, bxyc⟩ := tri bxy
  obtain ⟨bxza, bxzb, bxzc⟩ := tri bxz
  rcases (show ¬ c ≤ 0 ∨ (c ≤ 0 ∧ ¬ d ≤ 0) ∨ (c ≤ 0 ∧ d ≤ 0) by omega) with h | ⟨h, h2⟩ | ⟨h, h2⟩
  focus
    have hcd : decide (c ≤ 0) = false := by simpa using h
    clear h htr
    go_wp2_with fail
    clear hcd
    obtain ⟨wz, hwz⟩ : ∃ wx, wx = w9 := ⟨_, rfl⟩
    subst hwz
  rotate_left
  focus
    have hcd : decide (c ≤ 0) = true := by simpa using h
    have hdd : decide (d ≤ 0) = false := by simpa using h2
    clear h htr h2
    go_wp2_with fail
    have T10 := cmp_q Vy.out Vz.out (by omega)
    rw [← HD.out] at T10
    refine T10.mono ?_
    rintro e w10 ⟨rfl, hU10⟩
    clear T10
    have u10 : Up w9 w10 := hU10
    replace U := Up.trans U u10
    replace Vx := Lib.hid (Vx.out.up u10)
    replace Vy := Lib.hid (Vy.out.up u10)
    replace Vz := Lib.hid (Vz.out.up u10)
    replace bxx := Blk.up bxx u10
    replace bxy := Blk.up bxy u10
    replace bxz := Blk.up bxz u10
    clear hU10 u10
    clear bxxa bxxb bxxc bxya bxyb bxyc bxza bxzb bxzc
    obtain ⟨bxxa, bxxb, bxxc⟩ := tri bxx
    obtain ⟨bxya, bxyb, bxyc⟩ := tri bxy
    obtain ⟨bxza, bxzb, bxzc⟩ := tri bxz
    go_wp2_with fail
    clear hcd hdd
    obtain ⟨wz, hwz⟩ : ∃ wx, wx = w10 := ⟨_, rfl⟩
    subst hwz
  rotate_left
  focus
    have hcd : decide (c ≤ 0) = true := by simpa using h
    have hdd : decide (d ≤ 0) = true := by simpa using h2
    have hee : decide (0 < e9) = false := by simp; omega
    clear h htr h2
    go_wp2_with fail
    have T10 := cmp_q Vy.out Vz.out (by omega)
    rw [← HD.out] at T10
    refine T10.mono ?_
    rintro e w10 ⟨rfl, hU10⟩
    clear T10
    have u10 : Up w9 w10 := hU10
    replace U := Up.trans U u10
    replace Vx := Lib.hid (Vx.out.up u10)
    replace Vy := Lib.hid (Vy.out.up u10)
    replace Vz := Lib.hid (Vz.out.up u10)
    replace bxx := Blk.up bxx u10
    replace bxy := Blk.up bxy u10
    replace bxz := Blk.up bxz u10
    clear hU10 u10
    clear bxxa bxxb bxxc bxya bxyb bxyc bxza bxzb bxzc
    obtain ⟨bxxa, bxxb, bxxc⟩ := tri bxx
    obtain ⟨bxya, bxyb, bxyc⟩ := tri bxy
    obtain ⟨bxza, bxzb, bxzc⟩ := tri bxz
    go_wp2_with fail
    have T11 := cmp_q Vx.out Vz.out (by omega)
    rw [← HE.out] at T11
    refine T11.mono ?_
    rintro e w11 ⟨rfl, hU11⟩
    clear T11
    have u11 : Up w10 w11 := hU11
    replace U := Up.trans U u11
    replace Vx := Lib.hid (Vx.out.up u11)
    replace Vy := Lib.hid (Vy.out.up u11)
    replace Vz := Lib.hid (Vz.out.up u11)
    replace bxx := Blk.up bxx u11
    replace bxy := Blk.up bxy u11
    replace bxz := Blk.up bxz u11
    clear hU11 u11
    clear bxxa bxxb bxxc bxya bxyb bxyc bxza bxzb bxzc
    obtain ⟨bxxa, bxxb, bxxc⟩ := tri bxx
    obtain ⟨bxya, bxyb, bxyc⟩ := tri bxy
    obtain ⟨bxza, bxzb, bxzc⟩ := tri bxz
    go_wp2_with fail
    clear hcd hdd hee
    obtain ⟨wz, hwz⟩ : ∃ wx, wx = w11 := ⟨_, rfl⟩
    subst hwz
  rotate_left
  all_goals
    obtain ⟨σ, hσ⟩ : ∃ σ, σ = sgn z := ⟨_, rfl⟩
    have HT := Lib.hid hσ
    have h3 := sgn_three z
    rw [← hσ] at h3
    clear hσ
    rcases h3 with h | h | h
    focus
      subst h
      go_wp2_with fail
      clear bxxa bxxb bxxc bxya bxyb bxyc bxza bxzb bxzc
      have s22 := (And.intro (tri bxx) (And.intro (tri bxy) (tri bxz)))
      refine wp_region_noPanic ?_
      refine wp_region_sched (S := (fun wx => (wx.cell? ⟨w.heap.size, 0, none⟩ = some (.bool sx) ∧ wx.cell? ⟨w.heap.size, 1, none⟩ = some (.slice Ax xsx.length cx) ∧ wx.cell? ⟨w.heap.size, 2, none⟩ = some (.slice Bx ysx.length dx)) ∧ (wx.cell? ⟨w.heap.size + 1, 0, none⟩ = some (.bool sy) ∧ wx.cell? ⟨w.heap.size + 1, 1, none⟩ = some (.slice Ay xsy.length cy) ∧ wx.cell? ⟨w.heap.size + 1, 2, none⟩ = some (.slice By ysy.length dy)) ∧ (wx.cell? ⟨w.heap.size + 2, 0, none⟩ = some (.bool sz) ∧ wx.cell? ⟨w.heap.size + 2, 1, none⟩ = some (.slice Az xsz.length cz) ∧ wx.cell? ⟨w.heap.size + 2, 2, none⟩ = some (.slice Bz ysz.length dz)))) [(0, false), (1, true), (2, false), (3, false), (4, false), (5, false), (7, false), (8, false), (11, false), (6, true), (9, true), (10, true), (12, false), (13, false)] (by kernel_rfl) (by as_aux_lemma => kernel_rfl) (by as_aux_lemma => kernel_rfl) (by as_aux_lemma => kernel_rfl) (fun _ _ _ _ _ h => h) s22 ?_
      intro O22 HO22
      refine wpSched_take (i := 0) (v := ?_) (by as_aux_lemma => rw [HO22.out]; simp only [List.getElem?_toArray, List.getElem?_cons_zero]; rfl) (Or.inl ⟨(by rfl), ?_⟩) ?_
      rotate_left
      · as_aux_lemma => intro wx hSx; (try dsimp only at hSx); go_simp; try with_reducible rfl
      try simp only [Act.put, List.setIfInBounds_toArray, List.set_cons_zero, List.set_cons_succ]
      refine wpSched_call (i := 1) (by as_aux_lemma => rw [HO22.out]; simp only [List.getElem?_toArray, List.getElem?_cons_succ, List.getElem?_cons_zero]; rfl) (by rfl) (fun K' hK => ?_)
      go_simp
      go_at_call 9
      have T23 := sign_q (Vz.out.up (Up.refl wz).drew) (by omega)
      rw [← HT.out] at T23
      refine T23.mono ?_
      rintro e w23 ⟨rfl, hU23⟩
      clear T23
      have u23 : Up wz w23 := Up.trans (Up.refl wz).drew hU23
      replace U := Up.trans U u23
      replace Vx := Lib.hid (Vx.out.up u23)
      replace Vy := Lib.hid (Vy.out.up u23)
      replace Vz := Lib.hid (Vz.out.up u23)
      replace bxx := Blk.up bxx u23
      replace bxy := Blk.up bxy u23
      replace bxz := Blk.up bxz u23
      clear hU23 u23
      have s23 := (And.intro (tri bxx) (And.intro (tri bxy) (tri bxz)))
      go_wp2_with fail
      refine hK.out _ _ s23 (fun _ => ?_)
      clear hK K'
      try simp only [Act.put, List.setIfInBounds_toArray, List.set_cons_zero, List.set_cons_succ]
      clear s22
      refine wpSched_take (i := 2) (v := ?_) (by as_aux_lemma => rw [HO22.out]; simp only [List.getElem?_toArray, List.getElem?_cons_succ, List.getElem?_cons_zero]; rfl) (Or.inl ⟨(by rfl), ?_⟩) ?_
      rotate_left
      · as_aux_lemma => intro wx hSx; (try dsimp only at hSx); go_simp; try with_reducible rfl
      try simp only [Act.put, List.setIfInBounds_toArray, List.set_cons_zero, List.set_cons_succ]
      refine wpSched_take (i := 3) (v := ?_) (by as_aux_lemma => rw [HO22.out]; simp only [List.getElem?_toArray, List.getElem?_cons_succ, List.getElem?_cons_zero]; rfl) (Or.inl ⟨(by rfl), ?_⟩) ?_
      rotate_left
      · as_aux_lemma => intro wx hSx; (try dsimp only at hSx); go_simp; try with_reducible rfl
      try simp only [Act.put, List.setIfInBounds_toArray, List.set_cons_zero, List.set_cons_succ]
      refine wpSched_take (i := 4) (v := undef) (by as_aux_lemma => rw [HO22.out]; simp only [List.getElem?_toArray, List.getElem?_cons_succ, List.getElem?_cons_zero]; rfl) (Or.inr ⟨by as_aux_lemma => rw [HO22.out]; rfl, rfl⟩) ?_
      try simp only [Act.put, List.setIfInBounds_toArray, List.set_cons_zero, List.set_cons_succ]
      refine wpSched_take (i := 5) (v := undef) (by as_aux_lemma => rw [HO22.out]; simp only [List.getElem?_toArray, List.getElem?_cons_succ, List.getElem?_cons_zero]; rfl) (Or.inr ⟨by as_aux_lemma => rw [HO22.out]; rfl, rfl⟩) ?_
      try simp only [Act.put, List.setIfInBounds_toArray, List.set_cons_zero, List.set_cons_succ]
      refine wpSched_take (i := 7) (v := undef) (by as_aux_lemma => rw [HO22.out]; simp only [List.getElem?_toArray, List.getElem?_cons_succ, List.getElem?_cons_zero]; rfl) (Or.inr ⟨by as_aux_lemma => rw [HO22.out]; rfl, rfl⟩) ?_
      try simp only [Act.put, List.setIfInBounds_toArray, List.set_cons_zero, List.set_cons_succ]
      refine wpSched_take (i := 8) (v := undef) (by as_aux_lemma => rw [HO22.out]; simp only [List.getElem?_toArray, List.getElem?_cons_succ, List.getElem?_cons_zero]; rfl) (Or.inr ⟨by as_aux_lemma => rw [HO22.out]; rfl, rfl⟩) ?_
      try simp only [Act.put, List.setIfInBounds_toArray, List.set_cons_zero, List.set_cons_succ]
      refine wpSched_take (i := 11) (v := undef) (by as_aux_lemma => rw [HO22.out]; simp only [List.getElem?_toArray, List.getElem?_cons_succ, List.getElem?_cons_zero]; rfl) (Or.inr ⟨by as_aux_lemma => rw [HO22.out]; rfl, rfl⟩) ?_
      try simp only [Act.put, List.setIfInBounds_toArray, List.set_cons_zero, List.set_cons_succ]
      refine wpSched_skip (i := 6) (by as_aux_lemma => rw [HO22.out]; simp only [List.getElem?_toArray, List.getElem?_cons_succ, List.getElem?_cons_zero]; rfl) (by as_aux_lemma => rw [HO22.out]; rfl) s23 ?_
      try simp only [Act.put, List.setIfInBounds_toArray, List.set_cons_zero, List.set_cons_succ]
      refine wpSched_skip (i := 9) (by as_aux_lemma => rw [HO22.out]; simp only [List.getElem?_toArray, List.getElem?_cons_succ, List.getElem?_cons_zero]; rfl) (by as_aux_lemma => rw [HO22.out]; rfl) s23 ?_
      try simp only [Act.put, List.setIfInBounds_toArray, List.set_cons_zero, List.set_cons_succ]
      refine wpSched_skip (i := 10) (by as_aux_lemma => rw [HO22.out]; simp only [List.getElem?_toArray, List.getElem?_cons_succ, List.getElem?_cons_zero]; rfl) (by as_aux_lemma => rw [HO22.out]; rfl) s23 ?_
      try simp only [Act.put, List.setIfInBounds_toArray, List.set_cons_zero, List.set_cons_succ]
      refine wpSched_take (i := 12) (v := undef) (by as_aux_lemma => rw [HO22.out]; simp only [List.getElem?_toArray, List.getElem?_cons_succ, List.getElem?_cons_zero]; rfl) (Or.inr ⟨by as_aux_lemma => rw [HO22.out]; rfl, rfl⟩) ?_
      try simp only [Act.put, List.setIfInBounds_toArray, List.set_cons_zero, List.set_cons_succ]
      refine wpSched_take (i := 13) (v := ?_) (by as_aux_lemma => rw [HO22.out]; simp only [List.getElem?_toArray, List.getElem?_cons_succ, List.getElem?_cons_zero]; rfl) (Or.inl ⟨(by rfl), ?_⟩) ?_
      rotate_left
      · as_aux_lemma => intro wx hSx; (try dsimp only at hSx); go_simp; try with_reducible rfl
      try simp only [Act.put, List.setIfInBounds_toArray, List.set_cons_zero, List.set_cons_succ]
      refine wpSched_end (NoPanic.normal ?_)
      clear HO22 O22 s23
      obtain ⟨bxxa, bxxb, bxxc⟩ := tri bxx
      obtain ⟨bxya, bxyb, bxyc⟩ := tri bxy
      obtain ⟨bxza, bxzb, bxzc⟩ := tri bxz
      go_wp2_with fail
      clear HT
      obtain ⟨wy, hwz⟩ : ∃ wx, wx = w23 := ⟨_, rfl⟩
      subst hwz
    rotate_left
    focus
      subst h
      go_wp2_with fail
      clear bxxa bxxb bxxc bxya bxyb bxyc bxza bxzb bxzc
      have s22 := (And.intro (tri bxx) (And.intro (tri bxy) (tri bxz)))
      refine wp_region_noPanic ?_
      refine wp_region_sched (S := (fun wx => (wx.cell? ⟨w.heap.size, 0, none⟩ = some (.bool sx) ∧ wx.cell? ⟨w.heap.size, 1, none⟩ = some (.slice Ax xsx.length cx) ∧ wx.cell? ⟨w.heap.size, 2, none⟩ = some (.slice Bx ysx.length dx)) ∧ (wx.cell? ⟨w.heap.size + 1, 0, none⟩ = some (.bool sy) ∧ wx.cell? ⟨w.heap.size + 1, 1, none⟩ = some (.slice Ay xsy.length cy) ∧ wx.cell? ⟨w.heap.size + 1, 2, none⟩ = some (.slice By ysy.length dy)) ∧ (wx.cell? ⟨w.heap.size + 2, 0, none⟩ = some (.bool sz) ∧ wx.cell? ⟨w.heap.size + 2, 1, none⟩ = some (.slice Az xsz.length cz) ∧ wx.cell? ⟨w.heap.size + 2, 2, none⟩ = some (.slice Bz ysz.length dz)))) [(0, false), (1, true), (2, false), (3, false), (4, false), (5, false), (7, false), (8, false), (11, false), (6, true), (9, true), (10, true), (12, false), (13, false)] (by kernel_rfl) (by as_aux_lemma => kernel_rfl) (by as_aux_lemma => kernel_rfl) (by as_aux_lemma => kernel_rfl) (fun _ _ _ _ _ h => h) s22 ?_
      intro O22 HO22
      refine wpSched_take (i := 0) (v := ?_) (by as_aux_lemma => rw [HO22.out]; simp only [List.getElem?_toArray, List.getElem?_cons_zero]; rfl) (Or.inl ⟨(by rfl), ?_⟩) ?_
      rotate_left
      · as_aux_lemma => intro wx hSx; (try dsimp only at hSx); go_simp; try with_reducible rfl
      try simp only [Act.put, List.setIfInBounds_toArray, List.set_cons_zero, List.set_cons_succ]
      refine wpSched_call (i := 1) (by as_aux_lemma => rw [HO22.out]; simp only [List.getElem?_toArray, List.getElem?_cons_succ, List.getElem?_cons_zero]; rfl) (by rfl) (fun K' hK => ?_)
      go_simp
      go_at_call 9
      have T23 := sign_q (Vz.out.up (Up.refl wz).drew) (by omega)
      rw [← HT.out] at T23
      refine T23.mono ?_
      rintro e w23 ⟨rfl, hU23⟩
      clear T23
      have u23 : Up wz w23 := Up.trans (Up.refl wz).drew hU23
      replace U := Up.trans U u23
      replace Vx := Lib.hid (Vx.out.up u23)
      replace Vy := Lib.hid (Vy.out.up u23)
      replace Vz := Lib.hid (Vz.out.up u23)
      replace bxx := Blk.up bxx u23
      replace bxy := Blk.up bxy u23
      replace bxz := Blk.up bxz u23
      clear hU23 u23
      have s23 := (And.intro (tri bxx) (And.intro (tri bxy) (tri bxz)))
      go_wp2_with fail
      refine hK.out _ _ s23 (fun _ => ?_)
      clear hK K'
      try simp only [Act.put, List.setIfInBounds_toArray, List.set_cons_zero, List.set_cons_succ]
      clear s22
      refine wpSched_take (i := 2) (v := ?_) (by as_aux_lemma => rw [HO22.out]; simp only [List.getElem?_toArray, List.getElem?_cons_succ, List.getElem?_cons_zero]; rfl) (Or.inl ⟨(by rfl), ?_⟩) ?_
      rotate_left
      · as_aux_lemma => intro wx hSx; (try dsimp only at hSx); go_simp; try with_reducible rfl
      try simp only [Act.put, List.setIfInBounds_toArray, List.set_cons_zero, List.set_cons_succ]
      refine wpSched_take (i := 3) (v := ?_) (by as_aux_lemma => rw [HO22.out]; simp only [List.getElem?_toArray, List.getElem?_cons_succ, List.getElem?_cons_zero]; rfl) (Or.inl ⟨(by rfl), ?_⟩) ?_
      rotate_left
      · as_aux_lemma => intro wx hSx; (try dsimp only at hSx); go_simp; try with_reducible rfl
      try simp only [Act.put, List.setIfInBounds_toArray, List.set_cons_zero, List.set_cons_succ]
      refine wpSched_take (i := 4) (v := undef) (by as_aux_lemma => rw [HO22.out]; simp only [List.getElem?_toArray, List.getElem?_cons_succ, List.getElem?_cons_zero]; rfl) (Or.inr ⟨by as_aux_lemma => rw [HO22.out]; rfl, rfl⟩) ?_
      try simp only [Act.put, List.setIfInBounds_toArray, List.set_cons_zero, List.set_cons_succ]
      refine wpSched_take (i := 5) (v := undef) (by as_aux_lemma => rw [HO22.out]; simp only [List.getElem?_toArray, List.getElem?_cons_succ, List.getElem?_cons_zero]; rfl) (Or.inr ⟨by as_aux_lemma => rw [HO22.out]; rfl, rfl⟩) ?_
      try simp only [Act.put, List.setIfInBounds_toArray, List.set_cons_zero, List.set_cons_succ]
      refine wpSched_take (i := 7) (v := undef) (by as_aux_lemma => rw [HO22.out]; simp only [List.getElem?_toArray, List.getElem?_cons_succ, List.getElem?_cons_zero]; rfl) (Or.inr ⟨by as_aux_lemma => rw [HO22.out]; rfl, rfl⟩) ?_
      try simp only [Act.put, List.setIfInBounds_toArray, List.set_cons_zero, List.set_cons_succ]
      refine wpSched_take (i := 8) (v := undef) (by as_aux_lemma => rw [HO22.out]; simp only [List.getElem?_toArray, List.getElem?_cons_succ, List.getElem?_cons_zero]; rfl) (Or.inr ⟨by as_aux_lemma => rw [HO22.out]; rfl, rfl⟩) ?_
      try simp only [Act.put, List.setIfInBounds_toArray, List.set_cons_zero, List.set_cons_succ]
      refine wpSched_take (i := 11) (v := undef) (by as_aux_lemma => rw [HO22.out]; simp only [List.getElem?_toArray, List.getElem?_cons_succ, List.getElem?_cons_zero]; rfl) (Or.inr ⟨by as_aux_lemma => rw [HO22.out]; rfl, rfl⟩) ?_
      try simp only [Act.put, List.setIfInBounds_toArray, List.set_cons_zero, List.set_cons_succ]
      refine wpSched_skip (i := 6) (by as_aux_lemma => rw [HO22.out]; simp only [List.getElem?_toArray, List.getElem?_cons_succ, List.getElem?_cons_zero]; rfl) (by as_aux_lemma => rw [HO22.out]; rfl) s23 ?_
      try simp only [Act.put, List.setIfInBounds_toArray, List.set_cons_zero, List.set_cons_succ]
      refine wpSched_skip (i := 9) (by as_aux_lemma => rw [HO22.out]; simp only [List.getElem?_toArray, List.getElem?_cons_succ, List.getElem?_cons_zero]; rfl) (by as_aux_lemma => rw [HO22.out]; rfl) s23 ?_
      try simp only [Act.put, List.setIfInBounds_toArray, List.set_cons_zero, List.set_cons_succ]
      refine wpSched_skip (i := 10) (by as_aux_lemma => rw [HO22.out]; simp only [List.getElem?_toArray, List.getElem?_cons_succ, List.getElem?_cons_zero]; rfl) (by as_aux_lemma => rw [HO22.out]; rfl) s23 ?_
      try simp only [Act.put, List.setIfInBounds_toArray, List.set_cons_zero, List.set_cons_succ]
      refine wpSched_take (i := 12) (v := undef) (by as_aux_lemma => rw [HO22.out]; simp only [List.getElem?_toArray, List.getElem?_cons_succ, List.getElem?_cons_zero]; rfl) (Or.inr ⟨by as_aux_lemma => rw [HO22.out]; rfl, rfl⟩) ?_
      try simp only [Act.put, List.setIfInBounds_toArray, List.set_cons_zero, List.set_cons_succ]
      refine wpSched_take (i := 13) (v := ?_) (by as_aux_lemma => rw [HO22.out]; simp only [List.getElem?_toArray, List.getElem?_cons_succ, List.getElem?_cons_zero]; rfl) (Or.inl ⟨(by rfl), ?_⟩) ?_
      rotate_left
      · as_aux_lemma => intro wx hSx; (try dsimp only at hSx); go_simp; try with_reducible rfl
      try simp only [Act.put, List.setIfInBounds_toArray, List.set_cons_zero, List.set_cons_succ]
      refine wpSched_end (NoPanic.normal ?_)
      clear HO22 O22 s23
      obtain ⟨bxxa, bxxb, bxxc⟩ := tri bxx
      obtain ⟨bxya, bxyb, bxyc⟩ := tri bxy
      obtain ⟨bxza, bxzb, bxzc⟩ := tri bxz
      go_wp2_with fail
      clear HT
      obtain ⟨wy, hwz⟩ : ∃ wx, wx = w23 := ⟨_, rfl⟩
      subst hwz
    rotate_left
    focus
      subst h
      go_wp2_with fail
      clear bxxa bxxb bxxc bxya bxyb bxyc bxza bxzb bxzc
      have s22 := (And.intro (tri bxx) (And.intro (tri bxy) (tri bxz)))
      refine wp_region_noPanic ?_
      refine wp_region_sched (S := (fun wx => (wx.cell? ⟨w.heap.size, 0, none⟩ = some (.bool sx) ∧ wx.cell? ⟨w.heap.size, 1, none⟩ = some (.slice Ax xsx.length cx) ∧ wx.cell? ⟨w.heap.size, 2, none⟩ = some (.slice Bx ysx.length dx)) ∧ (wx.cell? ⟨w.heap.size + 1, 0, none⟩ = some (.bool sy) ∧ wx.cell? ⟨w.heap.size + 1, 1, none⟩ = some (.slice Ay xsy.length cy) ∧ wx.cell? ⟨w.heap.size + 1, 2, none⟩ = some (.slice By ysy.length dy)) ∧ (wx.cell? ⟨w.heap.size + 2, 0, none⟩ = some (.bool sz) ∧ wx.cell? ⟨w.heap.size + 2, 1, none⟩ = some (.slice Az xsz.length cz) ∧ wx.cell? ⟨w.heap.size + 2, 2, none⟩ = some (.slice Bz ysz.length dz)))) [(0, false), (1, true), (2, false), (3, false), (4, false), (5, false), (7, false), (8, false), (11, false), (6, true), (9, true), (10, true), (12, false), (13, false)] (by kernel_rfl) (by as_aux_lemma => kernel_rfl) (by as_aux_lemma => kernel_rfl) (by as_aux_lemma => kernel_rfl) (fun _ _ _ _ _ h => h) s22 ?_
      intro O22 HO22
      refine wpSched_take (i := 0) (v := ?_) (by as_aux_lemma => rw [HO22.out]; simp only [List.getElem?_toArray, List.getElem?_cons_zero]; rfl) (Or.inl ⟨(by rfl), ?_⟩) ?_
      rotate_left
      · as_aux_lemma => intro wx hSx; (try dsimp only at hSx); go_simp; try with_reducible rfl
      try simp only [Act.put, List.setIfInBounds_toArray, List.set_cons_zero, List.set_cons_succ]
      refine wpSched_call (i := 1) (by as_aux_lemma => rw [HO22.out]; simp only [List.getElem?_toArray, List.getElem?_cons_succ, List.getElem?_cons_zero]; rfl) (by rfl) (fun K' hK => ?_)
      go_simp
      go_at_call 9
      have T23 := sign_q (Vz.out.up (Up.refl wz).drew) (by omega)
      rw [← HT.out] at T23
      refine T23.mono ?_
      rintro e w23 ⟨rfl, hU23⟩
      clear T23
      have u23 : Up wz w23 := Up.trans (Up.refl wz).drew hU23
      replace U := Up.trans U u23
      replace Vx := Lib.hid (Vx.out.up u23)
      replace Vy := Lib.hid (Vy.out.up u23)
      replace Vz := Lib.hid (Vz.out.up u23)
      replace bxx := Blk.up bxx u23
      replace bxy := Blk.up bxy u23
      replace bxz := Blk.up bxz u23
      clear hU23 u23
      have s23 := (And.intro (tri bxx) (And.intro (tri bxy) (tri bxz)))
      go_wp2_with fail
      refine hK.out _ _ s23 (fun _ => ?_)
      clear hK K'
      try simp only [Act.put, List.setIfInBounds_toArray, List.set_cons_zero, List.set_cons_succ]
      clear s22
      refine wpSched_take (i := 2) (v := ?_) (by as_aux_lemma => rw [HO22.out]; simp only [List.getElem?_toArray, List.getElem?_cons_succ, List.getElem?_cons_zero]; rfl) (Or.inl ⟨(by rfl), ?_⟩) ?_
      rotate_left
      · as_aux_lemma => intro wx hSx; (try dsimp only at hSx); go_simp; try with_reducible rfl
      try simp only [Act.put, List.setIfInBounds_toArray, List.set_cons_zero, List.set_cons_succ]
      refine wpSched_take (i := 3) (v := ?_) (by as_aux_lemma => rw [HO22.out]; simp only [List.getElem?_toArray, List.getElem?_cons_succ, List.getElem?_cons_zero]; rfl) (Or.inl ⟨(by rfl), ?_⟩) ?_
      rotate_left
      · as_aux_lemma => intro wx hSx; (try dsimp only at hSx); go_simp; try with_reducible rfl
      try simp only [Act.put, List.setIfInBounds_toArray, List.set_cons_zero, List.set_cons_succ]
      refine wpSched_take (i := 4) (v := ?_) (by as_aux_lemma => rw [HO22.out]; simp only [List.getElem?_toArray, List.getElem?_cons_succ, List.getElem?_cons_zero]; rfl) (Or.inl ⟨(by as_aux_lemma => rw [HO22.out]; rfl), ?_⟩) ?_
      rotate_left
      · as_aux_lemma => intro wx hSx; (try dsimp only at hSx); go_simp; try with_reducible rfl
      try simp only [Act.put, List.setIfInBounds_toArray, List.set_cons_zero, List.set_cons_succ]
      refine wpSched_take (i := 5) (v := ?_) (by as_aux_lemma => rw [HO22.out]; simp only [List.getElem?_toArray, List.getElem?_cons_succ, List.getElem?_cons_zero]; rfl) (Or.inl ⟨(by as_aux_lemma => rw [HO22.out]; rfl), ?_⟩) ?_
      rotate_left
      · as_aux_lemma => intro wx hSx; (try dsimp only at hSx); go_simp; try with_reducible rfl
      try simp only [Act.put, List.setIfInBounds_toArray, List.set_cons_zero, List.set_cons_succ]
      refine wpSched_take (i := 7) (v := ?_) (by as_aux_lemma => rw [HO22.out]; simp only [List.getElem?_toArray, List.getElem?_cons_succ, List.getElem?_cons_zero]; rfl) (Or.inl ⟨(by as_aux_lemma => rw [HO22.out]; rfl), ?_⟩) ?_
      rotate_left
      · as_aux_lemma => intro wx hSx; (try dsimp only at hSx); go_simp; try with_reducible rfl
      try simp only [Act.put, List.setIfInBounds_toArray, List.set_cons_zero, List.set_cons_succ]
      refine wpSched_take (i := 8) (v := ?_) (by as_aux_lemma => rw [HO22.out]; simp only [List.getElem?_toArray, List.getElem?_cons_succ, List.getElem?_cons_zero]; rfl) (Or.inl ⟨(by as_aux_lemma => rw [HO22.out]; rfl), ?_⟩) ?_
      rotate_left
      · as_aux_lemma => intro wx hSx; (try dsimp only at hSx); go_simp; try with_reducible rfl
      try simp only [Act.put, List.setIfInBounds_toArray, List.set_cons_zero, List.set_cons_succ]
      refine wpSched_take (i := 11) (v := ?_) (by as_aux_lemma => rw [HO22.out]; simp only [List.getElem?_toArray, List.getElem?_cons_succ, List.getElem?_cons_zero]; rfl) (Or.inl ⟨(by as_aux_lemma => rw [HO22.out]; rfl), ?_⟩) ?_
      rotate_left
      · as_aux_lemma => intro wx hSx; (try dsimp only at hSx); go_simp; try with_reducible rfl
      try simp only [Act.put, List.setIfInBounds_toArray, List.set_cons_zero, List.set_cons_succ]
      refine wpSched_call (i := 6) (by as_aux_lemma => rw [HO22.out]; simp only [List.getElem?_toArray, List.getElem?_cons_succ, List.getElem?_cons_zero]; rfl) (by as_aux_lemma => rw [HO22.out]; rfl) (fun K' hK => ?_)
      go_simp
      go_at_call 12
      refine (mul_q Vx.out Vz.out (by omega)).mono ?_
      rintro e w24 ⟨v24, rfl, hQ24, hU24⟩
      obtain ⟨s24x, A24, n24, c24, B24, m24, d24, rfl⟩ := hQ24.shape
      obtain ⟨q24, hq24⟩ : ∃ q, q = x * z := ⟨_, rfl⟩
      rw [← hq24] at hQ24
      have S24 : Hid (qs q24 ≤ 18) := Lib.hid (by (rw [hq24]; have := qs_mul x z; have := Sx.out; have := Sz.out; omega))
      have E24 := Lib.hid hq24
      clear hq24
      have V24 := Lib.hid hQ24
      clear hQ24
      have u24 : Up w23 w24 := hU24
      replace U := Up.trans U u24
      replace Vx := Lib.hid (Vx.out.up u24)
      replace Vy := Lib.hid (Vy.out.up u24)
      replace Vz := Lib.hid (Vz.out.up u24)
      replace bxx := Blk.up bxx u24
      replace bxy := Blk.up bxy u24
      replace bxz := Blk.up bxz u24
      clear hU24 u24
      have s24 := (And.intro (tri bxx) (And.intro (tri bxy) (tri bxz)))
      go_wp2_with fail
      refine hK.out _ _ s24 (fun _ => ?_)
      clear hK K'
      try simp only [Act.put, List.setIfInBounds_toArray, List.set_cons_zero, List.set_cons_succ]
      clear s23
      refine wpSched_call (i := 9) (by as_aux_lemma => rw [HO22.out]; simp only [List.getElem?_toArray, List.getElem?_cons_succ, List.getElem?_cons_zero]; rfl) (by as_aux_lemma => rw [HO22.out]; rfl) (fun K' hK => ?_)
      go_simp
      go_at_call 12
      refine (mul_q Vy.out Vz.out (by omega)).mono ?_
      rintro e w25 ⟨v25, rfl, hQ25, hU25⟩
      obtain ⟨s25x, A25, n25, c25, B25, m25, d25, rfl⟩ := hQ25.shape
      obtain ⟨q25, hq25⟩ : ∃ q, q = y * z := ⟨_, rfl⟩
      rw [← hq25] at hQ25
      have S25 : Hid (qs q25 ≤ 18) := Lib.hid (by (rw [hq25]; have := qs_mul y z; have := Sy.out; have := Sz.out; omega))
      have E25 := Lib.hid hq25
      clear hq25
      have V25 := Lib.hid hQ25
      clear hQ25
      have u25 : Up w24 w25 := hU25
      replace U := Up.trans U u25
      replace Vx := Lib.hid (Vx.out.up u25)
      replace Vy := Lib.hid (Vy.out.up u25)
      replace Vz := Lib.hid (Vz.out.up u25)
      replace V24 := Lib.hid (V24.out.up u25)
      replace bxx := Blk.up bxx u25
      replace bxy := Blk.up bxy u25
      replace bxz := Blk.up bxz u25
      clear hU25 u25
      have s25 := (And.intro (tri bxx) (And.intro (tri bxy) (tri bxz)))
      go_wp2_with fail
      refine hK.out _ _ s25 (fun _ => ?_)
      clear hK K'
      try simp only [Act.put, List.setIfInBounds_toArray, List.set_cons_zero, List.set_cons_succ]
      clear s24
      refine wpSched_call (i := 10) (by as_aux_lemma => rw [HO22.out]; simp only [List.getElem?_toArray, List.getElem?_cons_succ, List.getElem?_cons_zero]; rfl) (by as_aux_lemma => rw [HO22.out]; rfl) (fun K' hK => ?_)
      go_simp
      go_at_call 17
      have T26 := cmp_q (V24.out.iv S24.out) (V25.out.iv S25.out) (by omega)
      rw [RationalOrder_mul E24.out E25.out (sgn_one HT.out.symm), ← HC.out] at T26
      refine T26.mono ?_
      rintro e w26 ⟨rfl, hU26⟩
      clear T26
      have u26 : Up w25 w26 := hU26
      replace U := Up.trans U u26
      replace Vx := Lib.hid (Vx.out.up u26)
      replace Vy := Lib.hid (Vy.out.up u26)
      replace Vz := Lib.hid (Vz.out.up u26)
      replace V24 := Lib.hid (V24.out.up u26)
      replace V25 := Lib.hid (V25.out.up u26)
      replace bxx := Blk.up bxx u26
      replace bxy := Blk.up bxy u26
      replace bxz := Blk.up bxz u26
      clear hU26 u26
      have s26 := (And.intro (tri bxx) (And.intro (tri bxy) (tri bxz)))
      go_wp2_with fail
      refine hK.out _ _ s26 (fun _ => ?_)
      clear hK K'
      try simp only [Act.put, List.setIfInBounds_toArray, List.set_cons_zero, List.set_cons_succ]
      clear s25
      refine wpSched_take (i := 12) (v := ?_) (by as_aux_lemma => rw [HO22.out]; simp only [List.getElem?_toArray, List.getElem?_cons_succ, List.getElem?_cons_zero]; rfl) (Or.inl ⟨(by as_aux_lemma => rw [HO22.out]; rfl), ?_⟩) ?_
      rotate_left
      · as_aux_lemma => intro wx hSx; (try dsimp only at hSx); go_simp; try with_reducible rfl
      try simp only [Act.put, List.setIfInBounds_toArray, List.set_cons_zero, List.set_cons_succ]
      refine wpSched_take (i := 13) (v := ?_) (by as_aux_lemma => rw [HO22.out]; simp only [List.getElem?_toArray, List.getElem?_cons_succ, List.getElem?_cons_zero]; rfl) (Or.inl ⟨(by rfl), ?_⟩) ?_
      rotate_left
      · as_aux_lemma => intro wx hSx; (try dsimp only at hSx); go_simp; try with_reducible rfl
      try simp only [Act.put, List.setIfInBounds_toArray, List.set_cons_zero, List.set_cons_succ]
      clear V24 V25
      refine wpSched_end (NoPanic.normal ?_)
      clear HO22 O22 s26
      obtain ⟨bxxa, bxxb, bxxc⟩ := tri bxx
      obtain ⟨bxya, bxyb, bxyc⟩ := tri bxy
      obtain ⟨bxza, bxzb, bxzc⟩ := tri bxz
      go_wp2_with fail
      clear HT
      obtain ⟨wy, hwz⟩ : ∃ wx, wx = w26 := ⟨_, rfl⟩
      subst hwz
    rotate_left
    all_goals
      go_wp2_with fail
      clear bxxa bxxb bxxc bxya bxyb bxyc bxza bxzb bxzc
      have s37 := (And.intro (tri bxx) (And.intro (tri bxy) (tri bxz)))
      refine wp_region_noPanic ?_
      refine wp_region_sched (S := (fun wx => (wx.cell? ⟨w.heap.size, 0, none⟩ = some (.bool sx) ∧ wx.cell? ⟨w.heap.size, 1, none⟩ = some (.slice Ax xsx.length cx) ∧ wx.cell? ⟨w.heap.size, 2, none⟩ = some (.slice Bx ysx.length dx)) ∧ (wx.cell? ⟨w.heap.size + 1, 0, none⟩ = some (.bool sy) ∧ wx.cell? ⟨w.heap.size + 1, 1, none⟩ = some (.slice Ay xsy.length cy) ∧ wx.cell? ⟨w.heap.size + 1, 2, none⟩ = some (.slice By ysy.length dy)) ∧ (wx.cell? ⟨w.heap.size + 2, 0, none⟩ = some (.bool sz) ∧ wx.cell? ⟨w.heap.size + 2, 1, none⟩ = some (.slice Az xsz.length cz) ∧ wx.cell? ⟨w.heap.size + 2, 2, none⟩ = some (.slice Bz ysz.length dz)))) [(0, false), (1, false), (3, false), (4, false), (7, false), (2, true), (5, true), (6, true), (8, false), (9, false), (10, false), (11, false), (14, false), (12, true), (13, true), (15, false), (16, false), (17, false), (18, true), (19, false), (20, false)] (by kernel_rfl) (by as_aux_lemma => kernel_rfl) (by as_aux_lemma => kernel_rfl) (by as_aux_lemma => kernel_rfl) (fun _ _ _ _ _ h => h) s37 ?_
      intro O37 HO37
      refine wpSched_take (i := 0) (v := ?_) (by as_aux_lemma => rw [HO37.out]; simp only [List.getElem?_toArray, List.getElem?_cons_zero]; rfl) (Or.inl ⟨(by rfl), ?_⟩) ?_
      rotate_left
      · as_aux_lemma => intro wx hSx; (try dsimp only at hSx); go_simp; try with_reducible rfl
      try simp only [Act.put, List.setIfInBounds_toArray, List.set_cons_zero, List.set_cons_succ]
      refine wpSched_take (i := 1) (v := ?_) (by as_aux_lemma => rw [HO37.out]; simp only [List.getElem?_toArray, List.getElem?_cons_succ, List.getElem?_cons_zero]; rfl) (Or.inl ⟨(by rfl), ?_⟩) ?_
      rotate_left
      · as_aux_lemma => intro wx hSx; (try dsimp only at hSx); go_simp; try with_reducible rfl
      try simp only [Act.put, List.setIfInBounds_toArray, List.set_cons_zero, List.set_cons_succ]
      refine wpSched_take (i := 3) (v := ?_) (by as_aux_lemma => rw [HO37.out]; simp only [List.getElem?_toArray, List.getElem?_cons_succ, List.getElem?_cons_zero]; rfl) (Or.inl ⟨(by rfl), ?_⟩) ?_
      rotate_left
      · as_aux_lemma => intro wx hSx; (try dsimp only at hSx); go_simp; try with_reducible rfl
      try simp only [Act.put, List.setIfInBounds_toArray, List.set_cons_zero, List.set_cons_succ]
      refine wpSched_take (i := 4) (v := ?_) (by as_aux_lemma => rw [HO37.out]; simp only [List.getElem?_toArray, List.getElem?_cons_succ, List.getElem?_cons_zero]; rfl) (Or.inl ⟨(by rfl), ?_⟩) ?_
      rotate_left
      · as_aux_lemma => intro wx hSx; (try dsimp only at hSx); go_simp; try with_reducible rfl
      try simp only [Act.put, List.setIfInBounds_toArray, List.set_cons_zero, List.set_cons_succ]
      refine wpSched_take (i := 7) (v := ?_) (by as_aux_lemma => rw [HO37.out]; simp only [List.getElem?_toArray, List.getElem?_cons_succ, List.getElem?_cons_zero]; rfl) (Or.inl ⟨(by rfl), ?_⟩) ?_
      rotate_left
      · as_aux_lemma => intro wx hSx; (try dsimp only at hSx); go_simp; try with_reducible rfl
      try simp only [Act.put, List.setIfInBounds_toArray, List.set_cons_zero, List.set_cons_succ]
      refine wpSched_call (i := 2) (by as_aux_lemma => rw [HO37.out]; simp only [List.getElem?_toArray, List.getElem?_cons_succ, List.getElem?_cons_zero]; rfl) (by rfl) (fun K' hK => ?_)
      go_simp
      go_at_call 14
      refine (add_q (Vx.out.up (Up.refl wy).drew) (Vz.out.up (Up.refl wy).drew) (by omega)).mono ?_
      rintro e w38 ⟨v38, rfl, hQ38, hU38⟩
      obtain ⟨s38x, A38, n38, c38, B38, m38, d38, rfl⟩ := hQ38.shape
      obtain ⟨q38, hq38⟩ : ∃ q, q = x + z := ⟨_, rfl⟩
      rw [← hq38] at hQ38
      have S38 : Hid (qs q38 ≤ 19) := Lib.hid (by (rw [hq38]; have := qs_add x z; have := Sx.out; have := Sz.out; omega))
      have E38 := Lib.hid hq38
      clear hq38
      have V38 := Lib.hid hQ38
      clear hQ38
      have u38 : Up wy w38 := Up.trans (Up.refl wy).drew hU38
      replace U := Up.trans U u38
      replace Vx := Lib.hid (Vx.out.up u38)
      replace Vy := Lib.hid (Vy.out.up u38)
      replace Vz := Lib.hid (Vz.out.up u38)
      replace bxx := Blk.up bxx u38
      replace bxy := Blk.up bxy u38
      replace bxz := Blk.up bxz u38
      clear hU38 u38
      have s38 := (And.intro (tri bxx) (And.intro (tri bxy) (tri bxz)))
      go_wp2_with fail
      refine hK.out _ _ s38 (fun _ => ?_)
      clear hK K'
      try simp only [Act.put, List.setIfInBounds_toArray, List.set_cons_zero, List.set_cons_succ]
      clear s37
      refine wpSched_call (i := 5) (by as_aux_lemma => rw [HO37.out]; simp only [List.getElem?_toArray, List.getElem?_cons_succ, List.getElem?_cons_zero]; rfl) (by rfl) (fun K' hK => ?_)
      go_simp
      go_at_call 14
      refine (add_q Vy.out Vz.out (by omega)).mono ?_
      rintro e w39 ⟨v39, rfl, hQ39, hU39⟩
      obtain ⟨s39x, A39, n39, c39, B39, m39, d39, rfl⟩ := hQ39.shape
      obtain ⟨q39, hq39⟩ : ∃ q, q = y + z := ⟨_, rfl⟩
      rw [← hq39] at hQ39
      have S39 : Hid (qs q39 ≤ 19) := Lib.hid (by (rw [hq39]; have := qs_add y z; have := Sy.out; have := Sz.out; omega))
      have E39 := Lib.hid hq39
      clear hq39
      have V39 := Lib.hid hQ39
      clear hQ39
      have u39 : Up w38 w39 := hU39
      replace U := Up.trans U u39
      replace Vx := Lib.hid (Vx.out.up u39)
      replace Vy := Lib.hid (Vy.out.up u39)
      replace Vz := Lib.hid (Vz.out.up u39)
      replace V38 := Lib.hid (V38.out.up u39)
      replace bxx := Blk.up bxx u39
      replace bxy := Blk.up bxy u39
      replace bxz := Blk.up bxz u39
      clear hU39 u39
      have s39 := (And.intro (tri bxx) (And.intro (tri bxy) (tri bxz)))
      go_wp2_with fail
      refine hK.out _ _ s39 (fun _ => ?_)
      clear hK K'
      try simp only [Act.put, List.setIfInBounds_toArray, List.set_cons_zero, List.set_cons_succ]
      clear s38
      refine wpSched_call (i := 6) (by as_aux_lemma => rw [HO37.out]; simp only [List.getElem?_toArray, List.getElem?_cons_succ, List.getElem?_cons_zero]; rfl) (by rfl) (fun K' hK => ?_)
      go_simp
      go_at_call 17
      have T40 := cmp_q (V38.out.iv S38.out) (V39.out.iv S39.out) (by omega)
      rw [RationalOrder_add E38.out E39.out, ← HC.out] at T40
      refine T40.mono ?_
      rintro e w40 ⟨rfl, hU40⟩
      clear T40
      have u40 : Up w39 w40 := hU40
      replace U := Up.trans U u40
      replace Vx := Lib.hid (Vx.out.up u40)
      replace Vy := Lib.hid (Vy.out.up u40)
      replace Vz := Lib.hid (Vz.out.up u40)
      replace V38 := Lib.hid (V38.out.up u40)
      replace V39 := Lib.hid (V39.out.up u40)
      replace bxx := Blk.up bxx u40
      replace bxy := Blk.up bxy u40
      replace bxz := Blk.up bxz u40
      clear hU40 u40
      have s40 := (And.intro (tri bxx) (And.intro (tri bxy) (tri bxz)))
      go_wp2_with fail
      refine hK.out _ _ s40 (fun _ => ?_)
      clear hK K'
      try simp only [Act.put, List.setIfInBounds_toArray, List.set_cons_zero, List.set_cons_succ]
      clear s39
      refine wpSched_take (i := 8) (v := ?_) (by as_aux_lemma => rw [HO37.out]; simp only [List.getElem?_toArray, List.getElem?_cons_succ, List.getElem?_cons_zero]; rfl) (Or.inl ⟨(by rfl), ?_⟩) ?_
      rotate_left
      · as_aux_lemma => intro wx hSx; (try dsimp only at hSx); go_simp; try with_reducible rfl
      try simp only [Act.put, List.setIfInBounds_toArray, List.set_cons_zero, List.set_cons_succ]
      refine wpSched_take (i := 9) (v := ?_) (by as_aux_lemma => rw [HO37.out]; simp only [List.getElem?_toArray, List.getElem?_cons_succ, List.getElem?_cons_zero]; rfl) (Or.inl ⟨(by rfl), ?_⟩) ?_
      rotate_left
      · as_aux_lemma => intro wx hSx; (try dsimp only at hSx); go_simp; try with_reducible rfl
      try simp only [Act.put, List.setIfInBounds_toArray, List.set_cons_zero, List.set_cons_succ]
      refine wpSched_take (i := 10) (v := ?_) (by as_aux_lemma => rw [HO37.out]; simp only [List.getElem?_toArray, List.getElem?_cons_succ, List.getElem?_cons_zero]; rfl) (Or.inl ⟨(by as_aux_lemma => rw [HO37.out]; rfl), ?_⟩) ?_
      rotate_left
      · as_aux_lemma => intro wx hSx; (try dsimp only at hSx); go_simp; try with_reducible rfl
      try simp only [Act.put, List.setIfInBounds_toArray, List.set_cons_zero, List.set_cons_succ]
      refine wpSched_take (i := 11) (v := ?_) (by as_aux_lemma => rw [HO37.out]; simp only [List.getElem?_toArray, List.getElem?_cons_succ, List.getElem?_cons_zero]; rfl) (Or.inl ⟨(by as_aux_lemma => rw [HO37.out]; rfl), ?_⟩) ?_
      rotate_left
      · as_aux_lemma => intro wx hSx; (try dsimp only at hSx); go_simp; try with_reducible rfl
      try simp only [Act.put, List.setIfInBounds_toArray, List.set_cons_zero, List.set_cons_succ]
      refine wpSched_take (i := 14) (v := ?_) (by as_aux_lemma => rw [HO37.out]; simp only [List.getElem?_toArray, List.getElem?_cons_succ, List.getElem?_cons_zero]; rfl) (Or.inl ⟨(by as_aux_lemma => rw [HO37.out]; rfl), ?_⟩) ?_
      rotate_left
      · as_aux_lemma => intro wx hSx; (try dsimp only at hSx); go_simp; try with_reducible rfl
      try simp only [Act.put, List.setIfInBounds_toArray, List.set_cons_zero, List.set_cons_succ]
      clear V38 V39
      refine wpSched_call (i := 12) (by as_aux_lemma => rw [HO37.out]; simp only [List.getElem?_toArray, List.getElem?_cons_succ, List.getElem?_cons_zero]; rfl) (by as_aux_lemma => rw [HO37.out]; rfl) (fun K' hK => ?_)
      go_simp
      go_at_call 15
      refine (sub_q Vx.out Vy.out (by omega)).mono ?_
      rintro e w41 ⟨v41, rfl, hQ41, hU41⟩
      obtain ⟨s41x, A41, n41, c41, B41, m41, d41, rfl⟩ := hQ41.shape
      obtain ⟨q41, hq41⟩ : ∃ q, q = x - y := ⟨_, rfl⟩
      rw [← hq41] at hQ41
      have S41 : Hid (qs q41 ≤ 19) := Lib.hid (by (rw [hq41]; have := qs_sub x y; have := Sx.out; have := Sy.out; omega))
      have E41 := Lib.hid hq41
      clear hq41
      have V41 := Lib.hid hQ41
      clear hQ41
      have u41 : Up w40 w41 := hU41
      replace U := Up.trans U u41
      replace Vx := Lib.hid (Vx.out.up u41)
      replace Vy := Lib.hid (Vy.out.up u41)
      replace Vz := Lib.hid (Vz.out.up u41)
      replace bxx := Blk.up bxx u41
      replace bxy := Blk.up bxy u41
      replace bxz := Blk.up bxz u41
      clear hU41 u41
      have s41 := (And.intro (tri bxx) (And.intro (tri bxy) (tri bxz)))
      go_wp2_with fail
      refine hK.out _ _ s41 (fun _ => ?_)
      clear hK K'
      try simp only [Act.put, List.setIfInBounds_toArray, List.set_cons_zero, List.set_cons_succ]
      clear s40
      refine wpSched_call (i := 13) (by as_aux_lemma => rw [HO37.out]; simp only [List.getElem?_toArray, List.getElem?_cons_succ, List.getElem?_cons_zero]; rfl) (by as_aux_lemma => rw [HO37.out]; rfl) (fun K' hK => ?_)
      go_simp
      go_at_call 9
      have T42 := sign_q (V41.out.iv S41.out) (by omega)
      rw [E41.out, ← HC.out] at T42
      refine T42.mono ?_
      rintro e w42 ⟨rfl, hU42⟩
      clear T42
      have u42 : Up w41 w42 := hU42
      replace U := Up.trans U u42
      replace Vx := Lib.hid (Vx.out.up u42)
      replace Vy := Lib.hid (Vy.out.up u42)
      replace Vz := Lib.hid (Vz.out.up u42)
      replace V41 := Lib.hid (V41.out.up u42)
      replace bxx := Blk.up bxx u42
      replace bxy := Blk.up bxy u42
      replace bxz := Blk.up bxz u42
      clear hU42 u42
      have s42 := (And.intro (tri bxx) (And.intro (tri bxy) (tri bxz)))
      go_wp2_with fail
      refine hK.out _ _ s42 (fun _ => ?_)
      clear hK K'
      try simp only [Act.put, List.setIfInBounds_toArray, List.set_cons_zero, List.set_cons_succ]
      clear s41
      refine wpSched_take (i := 15) (v := ?_) (by as_aux_lemma => rw [HO37.out]; simp only [List.getElem?_toArray, List.getElem?_cons_succ, List.getElem?_cons_zero]; rfl) (Or.inl ⟨(by as_aux_lemma => rw [HO37.out]; rfl), ?_⟩) ?_
      rotate_left
      · as_aux_lemma => intro wx hSx; (try dsimp only at hSx); go_simp; try with_reducible rfl
      try simp only [Act.put, List.setIfInBounds_toArray, List.set_cons_zero, List.set_cons_succ]
      refine wpSched_take (i := 16) (v := ?_) (by as_aux_lemma => rw [HO37.out]; simp only [List.getElem?_toArray, List.getElem?_cons_succ, List.getElem?_cons_zero]; rfl) (Or.inl ⟨(by rfl), ?_⟩) ?_
      rotate_left
      · as_aux_lemma => intro wx hSx; (try dsimp only at hSx); go_simp; try with_reducible rfl
      try simp only [Act.put, List.setIfInBounds_toArray, List.set_cons_zero, List.set_cons_succ]
      refine wpSched_take (i := 17) (v := ?_) (by as_aux_lemma => rw [HO37.out]; simp only [List.getElem?_toArray, List.getElem?_cons_succ, List.getElem?_cons_zero]; rfl) (Or.inl ⟨(by rfl), ?_⟩) ?_
      rotate_left
      · as_aux_lemma => intro wx hSx; (try dsimp only at hSx); go_simp; try with_reducible rfl
      try simp only [Act.put, List.setIfInBounds_toArray, List.set_cons_zero, List.set_cons_succ]
      clear V41
      refine wpSched_call (i := 18) (by as_aux_lemma => rw [HO37.out]; simp only [List.getElem?_toArray, List.getElem?_cons_succ, List.getElem?_cons_zero]; rfl) (by as_aux_lemma => rw [HO37.out]; rfl) (fun K' hK => ?_)
      go_simp
      go_at_call 16
      refine (awake01_any _).mono ?_
      rintro e w43 ⟨rfl, hU43⟩
      have u43 : Up w42 w43 := hU43
      replace U := Up.trans U u43
      replace Vx := Lib.hid (Vx.out.up u43)
      replace Vy := Lib.hid (Vy.out.up u43)
      replace Vz := Lib.hid (Vz.out.up u43)
      replace bxx := Blk.up bxx u43
      replace bxy := Blk.up bxy u43
      replace bxz := Blk.up bxz u43
      clear hU43 u43
      have s43 := (And.intro (tri bxx) (And.intro (tri bxy) (tri bxz)))
      go_wp2_with fail
      refine hK.out _ _ s43 (fun _ => ?_)
      clear hK K'
      try simp only [Act.put, List.setIfInBounds_toArray, List.set_cons_zero, List.set_cons_succ]
      clear s42
      refine wpSched_take (i := 19) (v := ?_) (by as_aux_lemma => rw [HO37.out]; simp only [List.getElem?_toArray, List.getElem?_cons_succ, List.getElem?_cons_zero]; rfl) (Or.inl ⟨(by rfl), ?_⟩) ?_
      rotate_left
      · as_aux_lemma => intro wx hSx; (try dsimp only at hSx); go_simp; try with_reducible rfl
      try simp only [Act.put, List.setIfInBounds_toArray, List.set_cons_zero, List.set_cons_succ]
      refine wpSched_take (i := 20) (v := ?_) (by as_aux_lemma => rw [HO37.out]; simp only [List.getElem?_toArray, List.getElem?_cons_succ, List.getElem?_cons_zero]; rfl) (Or.inl ⟨(by rfl), ?_⟩) ?_
      rotate_left
      · as_aux_lemma => intro wx hSx; (try dsimp only at hSx); go_simp; try with_reducible rfl
      try simp only [Act.put, List.setIfInBounds_toArray, List.set_cons_zero, List.set_cons_succ]
      refine wpSched_end (NoPanic.normal ?_)
      clear HO37 O37 s43
      obtain ⟨bxxa, bxxb, bxxc⟩ := tri bxx
      obtain ⟨bxya, bxyb, bxyc⟩ := tri bxy
      obtain ⟨bxza, bxzb, bxzc⟩ := tri bxz
      go_wp2_with fail
      go_ret
      exact ⟨rfl, U⟩
end Go.Proofs.Ytoedmnalnpmleaa
