/-
  RationalConverts: for every three 64-bit integers and every rational number, in whatever form, the law returns true. Conditions: none.
-/
import Derived.Test.YtgkelddcklggnaaPD
import Derived.Test.YtgkelddcklggnaaPA
import Derived.Test.YtgkelddcklggnaaPJ
namespace Go.Proofs.Ytgkelddcklggnaa
open Go.RowKit

theorem toIntQ_int (n : Int) (h1 : -9223372036854775808 ≤ n) (h2 : n ≤ 9223372036854775807) : toIntQ (n : Rat) = (n, true) := by
  unfold toIntQ
  rw [Rat.den_intCast, Rat.num_intCast, if_pos ⟨rfl, h1, h2⟩]
theorem RationalConverts_eq1 {n : Int} {q6 q7 : Rat} (e6 : q6 = ((n : Int) : Rat)) (e7 : q7 = ((n : Int) : Rat))  : q6 = q7 := by
  grind

theorem RationalConverts_eq2 {a b : Int} {q9 q10 : Rat} (e9 : q9 = ((a : Int) : Rat) / ((b : Int) : Rat)) (e10 : q10 = ((a : Int) : Rat) / ((b : Int) : Rat))  : q9 = q10 := by
  grind

set_option maxRecDepth 100000 in
set_option maxHeartbeats 6400000 in
theorem RationalConverts_walk (n a b : Int) (vx : Value) (sx : Bool) (xsx ysx : List Nat) (w : World) (hn : (Lit.int .i64 n).wf = true) (ha : (Lit.int .i64 a).wf = true) (hb : (Lit.int .i64 b).wf = true) (Rx : RV w vx sx xsx ysx) :
    Calls Try.prog 3 #[.int .i64 n, .int .i64 a, .int .i64 b, vx] w fun e w' => e = .returned (.bool true) ∧ Up w w' := by
  simp [Lit.wf, IntKind.min, IntKind.max, IntKind.bits, IntKind.signed] at hn ha hb
  obtain ⟨hn1, hn2⟩ := hn
  obtain ⟨ha1, ha2⟩ := ha
  obtain ⟨hb1, hb2⟩ := hb
  obtain ⟨Ax, cx, Bx, dx, hvx, lx, mx⟩ := Rx.shape
  have Kx := fun (wx : World) => keepRat_any sx Ax Bx xsx.length ysx.length cx dx wx lx mx
  by_cases kx : xsx.length ≤ 8 ∧ ysx.length ≤ 8
  case neg =>
    rw [show (decide (xsx.length ≤ 8) && decide (ysx.length ≤ 8)) = false from by rw [← Bool.decide_and, decide_eq_false_iff_not]; exact kx] at Kx
    replace Kx := Lib.hid Kx
    subst hvx
    clear  Rx kx 
    go_enter Try.func3, Try.ntmps3
    go_wp2_with fail
    obtain ⟨w0, hw0⟩ : ∃ wx, wx = (w.alloc (Obj.cells #[.bool sx, .slice Ax xsx.length cx, .slice Bx ysx.length dx] 24)) := ⟨_, rfl⟩
    have U : Up w w0 := by rw [hw0]; exact Below.alloc (Below.refl _ _) (Nat.le_refl _) _
    have bxx : Blk w0 (w.heap.size) 24 #[.bool sx, .slice Ax xsx.length cx, .slice Bx ysx.length dx] := by rw [hw0]; exact Blk.new' _ _ _ (by simp)
    rw [← hw0]
    clear hw0
    obtain ⟨bxxa, bxxb, bxxc⟩ := tri bxx
    refine (Kx.out w0).mono ?_
    rintro e w1 ⟨rfl, hU1⟩
    have u1 : Up w0 w1 := hU1
    replace U := Up.trans U u1
    replace bxx := Blk.up bxx u1
    clear hU1 u1
    clear bxxa bxxb bxxc
    obtain ⟨bxxa, bxxb, bxxc⟩ := tri bxx
    go_wp2_with fail
    go_ret
    exact ⟨rfl, U⟩
  rw [show (decide (xsx.length ≤ 8) && decide (ysx.length ≤ 8)) = true from by rw [← Bool.decide_and, decide_eq_true_iff]; exact kx] at Kx
  have Ix := Lib.hid (Rx.iv kx.1 kx.2)
  obtain ⟨x, hx⟩ : ∃ q, q = fq sx (nv xsx) (nv ysx) := ⟨_, rfl⟩
  rw [← hx] at Ix
  have Sx : Hid (qs x ≤ 9) := Lib.hid Ix.out.qs
  replace Kx := Lib.hid Kx
  clear hx kx
  subst hvx
  clear Rx
  go_enter Try.func3, Try.ntmps3
  go_wp2_with fail
  obtain ⟨w0, hw0⟩ : ∃ wx, wx = (w.alloc (Obj.cells #[.bool sx, .slice Ax xsx.length cx, .slice Bx ysx.length dx] 24)) := ⟨_, rfl⟩
  have U : Up w w0 := by rw [hw0]; exact Below.alloc (Below.refl _ _) (Nat.le_refl _) _
  have bxx : Blk w0 (w.heap.size) 24 #[.bool sx, .slice Ax xsx.length cx, .slice Bx ysx.length dx] := by rw [hw0]; exact Blk.new' _ _ _ (by simp)
  rw [← hw0]
  clear hw0
  obtain ⟨bxxa, bxxb, bxxc⟩ := tri bxx
  have Vx := Lib.hid (Ix.out.up U)
  refine (Kx.out w0).mono ?_
  rintro e w1 ⟨rfl, hU1⟩
  have u1 : Up w0 w1 := hU1
  replace U := Up.trans U u1
  replace Vx := Lib.hid (Vx.out.up u1)
  replace bxx := Blk.up bxx u1
  clear hU1 u1
  clear bxxa bxxb bxxc
  obtain ⟨bxxa, bxxb, bxxc⟩ := tri bxx
  obtain ⟨⟨z, o⟩, hzo⟩ : ∃ p, p = toIntQ x := ⟨_, rfl⟩
  have HZ := Lib.hid hzo
  clear hzo
  go_wp2_with fail
  have T2 := toInt_q Vx.out (by omega)
  rw [← HZ.out] at T2
  refine T2.mono ?_
  rintro e w2 ⟨rfl, hU2⟩
  clear T2
  have u2 : Up w1 w2 := hU2
  replace U := Up.trans U u2
  replace Vx := Lib.hid (Vx.out.up u2)
  replace bxx := Blk.up bxx u2
  clear hU2 u2
  clear bxxa bxxb bxxc
  obtain ⟨bxxa, bxxb, bxxc⟩ := tri bxx
  go_wp2_with fail
  have T3 := rToInt_q Vx.out (by omega)
  rw [← HZ.out] at T3
  refine T3.mono ?_
  rintro e w3 ⟨rfl, hU3⟩
  clear T3
  have u3 : Up w2 w3 := hU3
  replace U := Up.trans U u3
  replace Vx := Lib.hid (Vx.out.up u3)
  replace bxx := Blk.up bxx u3
  clear hU3 u3
  clear bxxa bxxb bxxc
  obtain ⟨bxxa, bxxb, bxxc⟩ := tri bxx
  go_wp2_with fail
  refine (fromInt_q n hn1 hn2).mono ?_
  rintro e w4 ⟨v4, rfl, hQ4, hU4⟩
  obtain ⟨s4x, A4, n4, c4, B4, m4, d4, rfl⟩ := hQ4.shape
  obtain ⟨q4, hq4⟩ : ∃ q, q = ((n : Int) : Rat) := ⟨_, rfl⟩
  rw [← hq4] at hQ4
  have S4 : Hid (qs q4 ≤ 3) := Lib.hid (by (rw [hq4]; exact qs_int _ hn1 hn2))
  have E4 := Lib.hid hq4
  clear hq4
  have V4 := Lib.hid hQ4
  clear hQ4
  have u4 : Up w3 w4 := hU4
  replace U := Up.trans U u4
  replace Vx := Lib.hid (Vx.out.up u4)
  replace bxx := Blk.up bxx u4
  clear hU4 u4
  clear bxxa bxxb bxxc
  obtain ⟨bxxa, bxxb, bxxc⟩ := tri bxx
  go_wp2_with fail
  have T5 := toInt_q (V4.out.iv S4.out) (by omega)
  rw [E4.out, toIntQ_int n hn1 hn2] at T5
  refine T5.mono ?_
  rintro e w5 ⟨rfl, hU5⟩
  clear T5
  have u5 : Up w4 w5 := hU5
  replace U := Up.trans U u5
  replace Vx := Lib.hid (Vx.out.up u5)
  replace V4 := Lib.hid (V4.out.up u5)
  replace bxx := Blk.up bxx u5
  clear hU5 u5
  clear bxxa bxxb bxxc
  obtain ⟨bxxa, bxxb, bxxc⟩ := tri bxx
  clear V4
  go_wp2_with fail
  refine (fromInt_q n hn1 hn2).mono ?_
  rintro e w6 ⟨v6, rfl, hQ6, hU6⟩
  obtain ⟨s6x, A6, n6, c6, B6, m6, d6, rfl⟩ := hQ6.shape
  obtain ⟨q6, hq6⟩ : ∃ q, q = ((n : Int) : Rat) := ⟨_, rfl⟩
  rw [← hq6] at hQ6
  have S6 : Hid (qs q6 ≤ 3) := Lib.hid (by (rw [hq6]; exact qs_int _ hn1 hn2))
  have E6 := Lib.hid hq6
  clear hq6
  have V6 := Lib.hid hQ6
  clear hQ6
  have u6 : Up w5 w6 := hU6
  replace U := Up.trans U u6
  replace Vx := Lib.hid (Vx.out.up u6)
  replace bxx := Blk.up bxx u6
  clear hU6 u6
  clear bxxa bxxb bxxc
  obtain ⟨bxxa, bxxb, bxxc⟩ := tri bxx
  go_wp2_with fail
  refine (rFromInt_q n hn1 hn2).mono ?_
  rintro e w7 ⟨v7, rfl, hQ7, hU7⟩
  obtain ⟨s7x, A7, n7, c7, B7, m7, d7, rfl⟩ := hQ7.shape
  obtain ⟨q7, hq7⟩ : ∃ q, q = ((n : Int) : Rat) := ⟨_, rfl⟩
  rw [← hq7] at hQ7
  have S7 : Hid (qs q7 ≤ 3) := Lib.hid (by (rw [hq7]; exact qs_int _ hn1 hn2))
  have E7 := Lib.hid hq7
  clear hq7
  have V7 := Lib.hid hQ7
  clear hQ7
  have u7 : Up w6 w7 := hU7
  replace U := Up.trans U u7
  replace Vx := Lib.hid (Vx.out.up u7)
  replace V6 := Lib.hid (V6.out.up u7)
  replace bxx := Blk.up bxx u7
  clear hU7 u7
  clear bxxa bxxb bxxc
  obtain ⟨bxxa, bxxb, bxxc⟩ := tri bxx
  go_wp2_with fail
  have T8 := sameRat_q V6.out V7.out (by have := S6.out; omega) (by have := S7.out; omega)
  rw [decide_eq_true (RationalConverts_eq1 (n := n) E6.out E7.out )] at T8
  refine T8.mono ?_
  rintro e w8 ⟨rfl, hU8⟩
  clear T8
  have u8 : Up w7 w8 := hU8
  replace U := Up.trans U u8
  replace Vx := Lib.hid (Vx.out.up u8)
  replace V6 := Lib.hid (V6.out.up u8)
  replace V7 := Lib.hid (V7.out.up u8)
  replace bxx := Blk.up bxx u8
  clear hU8 u8
  clear bxxa bxxb bxxc
  obtain ⟨bxxa, bxxb, bxxc⟩ := tri bxx
  clear V6 V7
  go_wp2_with fail
  refine (small_q a b ha1 ha2 hb1 hb2).mono ?_
  rintro e w9 ⟨v9, rfl, hQ9, hU9⟩
  obtain ⟨s9x, A9, n9, c9, B9, m9, d9, rfl⟩ := hQ9.shape
  obtain ⟨q9, hq9⟩ : ∃ q, q = ((a : Int) : Rat) / ((b : Int) : Rat) := ⟨_, rfl⟩
  rw [← hq9] at hQ9
  have S9 : Hid (qs q9 ≤ 6) := Lib.hid (by (rw [hq9]; have := qs_div ((a : Int) : Rat) ((b : Int) : Rat); have := qs_int _ ha1 ha2; have := qs_int _ hb1 hb2; omega))
  have E9 := Lib.hid hq9
  clear hq9
  have V9 := Lib.hid hQ9
  clear hQ9
  have u9 : Up w8 w9 := hU9
  replace U := Up.trans U u9
  replace Vx := Lib.hid (Vx.out.up u9)
  replace bxx := Blk.up bxx u9
  clear hU9 u9
  clear bxxa bxxb bxxc
  obtain ⟨bxxa, bxxb, bxxc⟩ := tri bxx
  go_wp2_with fail
  refine (rSmall_q a b ha1 ha2 hb1 hb2).mono ?_
  rintro e w10 ⟨v10, rfl, hQ10, hU10⟩
  obtain ⟨s10x, A10, n10, c10, B10, m10, d10, rfl⟩ := hQ10.shape
  obtain ⟨q10, hq10⟩ : ∃ q, q = ((a : Int) : Rat) / ((b : Int) : Rat) := ⟨_, rfl⟩
  rw [← hq10] at hQ10
  have S10 : Hid (qs q10 ≤ 6) := Lib.hid (by (rw [hq10]; have := qs_div ((a : Int) : Rat) ((b : Int) : Rat); have := qs_int _ ha1 ha2; have := qs_int _ hb1 hb2; omega))
  have E10 := Lib.hid hq10
  clear hq10
  have V10 := Lib.hid hQ10
  clear hQ10
  have u10 : Up w9 w10 := hU10
  replace U := Up.trans U u10
  replace Vx := Lib.hid (Vx.out.up u10)
  replace V9 := Lib.hid (V9.out.up u10)
  replace bxx := Blk.up bxx u10
  clear hU10 u10
  clear bxxa bxxb bxxc
  obtain ⟨bxxa, bxxb, bxxc⟩ := tri bxx
  go_wp2_with fail
  have T11 := sameRat_q V9.out V10.out (by have := S9.out; omega) (by have := S10.out; omega)
  rw [decide_eq_true (RationalConverts_eq2 (a := a) (b := b) E9.out E10.out )] at T11
  refine T11.mono ?_
  rintro e w11 ⟨rfl, hU11⟩
  clear T11
  have u11 : Up w10 w11 := hU11
  replace U := Up.trans U u11
  replace Vx := Lib.hid (Vx.out.up u11)
  replace V9 := Lib.hid (V9.out.up u11)
  replace V10 := Lib.hid (V10.out.up u11)
  replace bxx := Blk.up bxx u11
  clear hU11 u11
  clear bxxa bxxb bxxc
  obtain ⟨bxxa, bxxb, bxxc⟩ := tri bxx
  clear V9 V10
  go_wp2_with fail
  refine (awake01_any _).mono ?_
  rintro e w12 ⟨rfl, hU12⟩
  have u12 : Up w11 w12 := hU12
  replace U := Up.trans U u12
  replace Vx := Lib.hid (Vx.out.up u12)
  replace bxx := Blk.up bxx u12
  clear hU12 u12
  clear bxxa bxxb bxxc
  obtain ⟨bxxa, bxxb, bxxc⟩ := tri bxx
  go_wp2_with fail
  go_ret
  exact ⟨rfl, U⟩
end Go.Proofs.Ytgkelddcklggnaa
