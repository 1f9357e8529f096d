/-
  RationalBack: for every rational number, in whatever form, the law returns true. Conditions: none.
-/
import Derived.Test.YtefiapjfiojaoaaDoorNFormat
import Derived.Test.YtefiapjfiojaoaaDoorNParseP
import Derived.Test.YtefiapjfiojaoaaDoorPD
import Derived.Test.YtefiapjfiojaoaaDoorPA
namespace Go.Proofs.YtefiapjfiojaoaaDoor
open Go.RowKit

theorem RationalBack_eq1 {x q6 : Rat} (e6 : q6 = x)  : x = q6 := by
  exact (e6).symm

set_option maxRecDepth 100000 in
set_option maxHeartbeats 6400000 in
theorem RationalBack_walk (vx : Value) (sx : Bool) (xsx ysx : List Nat) (w : World) (Rx : RV w vx sx xsx ysx) (htab : TabW w) (m : Int) (hm : w.cell? ⟨0, 0, none⟩ = some (.int .i64 m)) :
    Calls Tryd.prog 4 #[vx] w fun e w' => e = .returned (.bool true) ∧ Up w w' := by
  have HT := Lib.hid htab
  clear htab
  have HM := Lib.hid hm
  clear hm
  obtain ⟨Ax, cx, Bx, dx, hvx, lx, mx⟩ := Rx.shape
  have Kx := fun (wx : World) => keepRat_any sx Ax Bx xsx.length ysx.length cx dx wx lx mx
  by_cases kx : xsx.length ≤ 8 ∧ ysx.length ≤ 8
  case neg =>
    rw [show (decide (xsx.length ≤ 8) && decide (ysx.length ≤ 8)) = false from by rw [← Bool.decide_and, decide_eq_false_iff_not]; exact kx] at Kx
    replace Kx := Lib.hid Kx
    subst hvx
    clear  Rx kx 
    go_enter Tryd.func4, Tryd.ntmps4
    go_wp2_with fail
    obtain ⟨w0, hw0⟩ : ∃ wx, wx = (w.alloc (Obj.cells #[.bool sx, .slice Ax xsx.length cx, .slice Bx ysx.length dx] 24)) := ⟨_, rfl⟩
    have U : Up w w0 := by rw [hw0]; exact Below.alloc (Below.refl _ _) (Nat.le_refl _) _
    have bxx : Blk w0 (w.heap.size) 24 #[.bool sx, .slice Ax xsx.length cx, .slice Bx ysx.length dx] := by rw [hw0]; exact Blk.new' _ _ _ (by simp)
    rw [← hw0]
    clear hw0
    obtain ⟨bxxa, bxxb, bxxc⟩ := tri bxx
    refine (Kx.out w0).mono ?_
    rintro e w1 ⟨rfl, hU1⟩
    have u1 : Up w0 w1 := hU1
    replace U := Up.trans U u1
    replace bxx := Blk.up bxx u1
    clear hU1 u1
    clear bxxa bxxb bxxc
    obtain ⟨bxxa, bxxb, bxxc⟩ := tri bxx
    go_wp2_with fail
    go_ret
    exact ⟨rfl, U⟩
  rw [show (decide (xsx.length ≤ 8) && decide (ysx.length ≤ 8)) = true from by rw [← Bool.decide_and, decide_eq_true_iff]; exact kx] at Kx
  have Ix := Lib.hid (Rx.iv kx.1 kx.2)
  obtain ⟨x, hx⟩ : ∃ q, q = fq sx (nv xsx) (nv ysx) := ⟨_, rfl⟩
  rw [← hx] at Ix
  have Sx : Hid (qs x ≤ 9) := Lib.hid Ix.out.qs
  replace Kx := Lib.hid Kx
  clear hx kx
  subst hvx
  clear Rx
  go_enter Tryd.func4, Tryd.ntmps4
  go_wp2_with fail
  obtain ⟨w0, hw0⟩ : ∃ wx, wx = (w.alloc (Obj.cells #[.bool sx, .slice Ax xsx.length cx, .slice Bx ysx.length dx] 24)) := ⟨_, rfl⟩
  have U : Up w w0 := by rw [hw0]; exact Below.alloc (Below.refl _ _) (Nat.le_refl _) _
  have bxx : Blk w0 (w.heap.size) 24 #[.bool sx, .slice Ax xsx.length cx, .slice Bx ysx.length dx] := by rw [hw0]; exact Blk.new' _ _ _ (by simp)
  rw [← hw0]
  clear hw0
  obtain ⟨bxxa, bxxb, bxxc⟩ := tri bxx
  have Vx := Lib.hid (Ix.out.up U)
  refine (Kx.out w0).mono ?_
  rintro e w1 ⟨rfl, hU1⟩
  have u1 : Up w0 w1 := hU1
  replace U := Up.trans U u1
  replace Vx := Lib.hid (Vx.out.up u1)
  replace bxx := Blk.up bxx u1
  clear hU1 u1
  clear bxxa bxxb bxxc
  obtain ⟨bxxa, bxxb, bxxc⟩ := tri bxx
  obtain ⟨TX, hTX⟩ : ∃ T, T = (⟨(ftext x).toArray⟩ : ByteArray) := ⟨_, rfl⟩
  have HTX := Lib.hid hTX
  clear hTX
  have hp := Lib.hid (ptext_ftext (q := x) (by have := Sx.out; omega))
  have hl := Lib.hid (ftext_len (q := x) (by have := Sx.out; omega))
  go_wp2_with fail
  refine (format_q Vx.out (by omega) (HT.out.up U)).mono ?_
  rintro e w2 ⟨he2, hU2⟩
  rw [← HTX.out] at he2
  subst he2
  have u2 : Up w1 w2 := hU2
  replace U := Up.trans U u2
  replace Vx := Lib.hid (Vx.out.up u2)
  replace bxx := Blk.up bxx u2
  clear hU2 u2
  clear bxxa bxxb bxxc
  obtain ⟨bxxa, bxxb, bxxc⟩ := tri bxx
  go_wp2_with fail
  have T3 := parse_t (ftext x) w2 m hl.out ((U.cell (lt_of_cell' HM.out)).trans HM.out)
  rw [← HTX.out, hp.out] at T3
  refine T3.mono ?_
  clear T3
  rintro e w3 ⟨v3, rfl, hQ3, hU3⟩
  obtain ⟨s3x, A3, n3, c3, B3, m3, d3, rfl⟩ := hQ3.shape
  have S3 : Hid (qs x ≤ 9) := Lib.hid Sx.out
  have V3 := Lib.hid hQ3
  clear hQ3
  have u3 : Up w2 w3 := hU3
  replace U := Up.trans U u3
  replace Vx := Lib.hid (Vx.out.up u3)
  replace bxx := Blk.up bxx u3
  clear hU3 u3
  clear bxxa bxxb bxxc
  obtain ⟨bxxa, bxxb, bxxc⟩ := tri bxx
  have zbxx := bxx.lt
  go_wp2_with fail
  clear zbxx
  obtain ⟨w4, hw4⟩ : ∃ wx, wx = (w3.alloc (Obj.cells #[.bool s3x, .slice A3 n3 c3, .slice B3 m3 d3] 24)) := ⟨_, rfl⟩
  have hU4 : Up w3 w4 := by rw [hw4]; exact Below.alloc (Below.refl _ _) (Nat.le_refl _) _
  have bx3 : Blk w4 (w3.heap.size) 24 #[.bool s3x, .slice A3 n3 c3, .slice B3 m3 d3] := by rw [hw4]; exact Blk.new' _ _ _ (by simp)
  rw [← hw4]
  clear hw4
  have u4 : Up w3 w4 := hU4
  replace U := Up.trans U u4
  replace Vx := Lib.hid (Vx.out.up u4)
  replace V3 := Lib.hid (V3.out.up u4)
  replace bxx := Blk.up bxx u4
  clear hU4 u4
  clear bxxa bxxb bxxc
  obtain ⟨bxxa, bxxb, bxxc⟩ := tri bxx
  obtain ⟨g3, hg3⟩ : ∃ g, g = w3.heap.size := ⟨_, rfl⟩
  rw [← hg3] at bx3
  try rw [show w3.heap.size = g3 from hg3.symm]
  clear hg3
  clear bxxa bxxb bxxc
  obtain ⟨bxxa, bxxb, bxxc⟩ := tri bxx
  obtain ⟨bx3a, bx3b, bx3c⟩ := tri bx3
  go_wp2_with fail
  clear bxxa bxxb bxxc bx3a bx3b bx3c
  have s5 := (And.intro (tri bxx) (tri bx3))
  refine wp_region_noPanic ?_
  refine wp_region_sched (S := (fun wx => (wx.cell? ⟨w.heap.size, 0, none⟩ = some (.bool sx) ∧ wx.cell? ⟨w.heap.size, 1, none⟩ = some (.slice Ax xsx.length cx) ∧ wx.cell? ⟨w.heap.size, 2, none⟩ = some (.slice Bx ysx.length dx)) ∧ (wx.cell? ⟨g3, 0, none⟩ = some (.bool s3x) ∧ wx.cell? ⟨g3, 1, none⟩ = some (.slice A3 n3 c3) ∧ wx.cell? ⟨g3, 2, none⟩ = some (.slice B3 m3 d3)))) [(0, false), (1, false), (2, false), (3, false), (4, true), (5, true), (6, false), (7, false), (8, true), (9, false), (10, false)] (by kernel_rfl) (by as_aux_lemma => kernel_rfl) (by as_aux_lemma => kernel_rfl) (by as_aux_lemma => kernel_rfl) (fun _ _ _ _ _ h => h) s5 ?_
  intro O5 HO5
  refine wpSched_take (i := 0) (v := ?_) (by as_aux_lemma => rw [HO5.out]; simp only [List.getElem?_toArray, List.getElem?_cons_zero]; rfl) (Or.inl ⟨(by rfl), ?_⟩) ?_
  rotate_left
  · as_aux_lemma => intro wx hSx; (try dsimp only at hSx); go_simp; try with_reducible rfl
  try simp only [Act.put, List.setIfInBounds_toArray, List.set_cons_zero, List.set_cons_succ]
  refine wpSched_take (i := 1) (v := ?_) (by as_aux_lemma => rw [HO5.out]; simp only [List.getElem?_toArray, List.getElem?_cons_succ, List.getElem?_cons_zero]; rfl) (Or.inl ⟨(by rfl), ?_⟩) ?_
  rotate_left
  · as_aux_lemma => intro wx hSx; (try dsimp only at hSx); go_simp; try with_reducible rfl
  try simp only [Act.put, List.setIfInBounds_toArray, List.set_cons_zero, List.set_cons_succ]
  refine wpSched_take (i := 2) (v := ?_) (by as_aux_lemma => rw [HO5.out]; simp only [List.getElem?_toArray, List.getElem?_cons_succ, List.getElem?_cons_zero]; rfl) (Or.inl ⟨(by as_aux_lemma => rw [HO5.out]; rfl), ?_⟩) ?_
  rotate_left
  · as_aux_lemma => intro wx hSx; (try dsimp only at hSx); go_simp; try with_reducible rfl
  try simp only [Act.put, List.setIfInBounds_toArray, List.set_cons_zero, List.set_cons_succ]
  refine wpSched_take (i := 3) (v := ?_) (by as_aux_lemma => rw [HO5.out]; simp only [List.getElem?_toArray, List.getElem?_cons_succ, List.getElem?_cons_zero]; rfl) (Or.inl ⟨(by as_aux_lemma => rw [HO5.out]; rfl), ?_⟩) ?_
  rotate_left
  · as_aux_lemma => intro wx hSx; (try dsimp only at hSx); go_simp; try with_reducible rfl
  try simp only [Act.put, List.setIfInBounds_toArray, List.set_cons_zero, List.set_cons_succ]
  refine wpSched_call (i := 4) (by as_aux_lemma => rw [HO5.out]; simp only [List.getElem?_toArray, List.getElem?_cons_succ, List.getElem?_cons_zero]; rfl) (by as_aux_lemma => rw [HO5.out]; rfl) (fun K' hK => ?_)
  go_simp
  go_at_call 8
  refine (canonical_q (Vx.out.up (Up.refl w4).drew) (by omega)).mono ?_
  rintro e w6 ⟨v6, rfl, hQ6, hU6⟩
  obtain ⟨s6x, A6, n6, c6, B6, m6, d6, rfl⟩ := hQ6.shape
  obtain ⟨q6, hq6⟩ : ∃ q, q = x := ⟨_, rfl⟩
  rw [← hq6] at hQ6
  have S6 : Hid (qs q6 ≤ 9) := Lib.hid (by (rw [hq6]; have := trivial; have := Sx.out; omega))
  have E6 := Lib.hid hq6
  clear hq6
  have V6 := Lib.hid hQ6
  clear hQ6
  have u6 : Up w4 w6 := Up.trans (Up.refl w4).drew hU6
  replace U := Up.trans U u6
  replace Vx := Lib.hid (Vx.out.up u6)
  replace V3 := Lib.hid (V3.out.up u6)
  replace bxx := Blk.up bxx u6
  replace bx3 := Blk.up bx3 u6
  clear hU6 u6
  have s6 := (And.intro (tri bxx) (tri bx3))
  go_wp2_with fail
  refine hK.out _ _ s6 (fun _ => ?_)
  clear hK K'
  try simp only [Act.put, List.setIfInBounds_toArray, List.set_cons_zero, List.set_cons_succ]
  clear s5
  refine wpSched_call (i := 5) (by as_aux_lemma => rw [HO5.out]; simp only [List.getElem?_toArray, List.getElem?_cons_succ, List.getElem?_cons_zero]; rfl) (by as_aux_lemma => rw [HO5.out]; rfl) (fun K' hK => ?_)
  go_simp
  go_at_call 11
  have T7 := sameRat_q V3.out V6.out (by have := S3.out; omega) (by have := S6.out; omega)
  rw [decide_eq_true (RationalBack_eq1 E6.out )] at T7
  refine T7.mono ?_
  rintro e w7 ⟨rfl, hU7⟩
  clear T7
  have u7 : Up w6 w7 := hU7
  replace U := Up.trans U u7
  replace Vx := Lib.hid (Vx.out.up u7)
  replace V3 := Lib.hid (V3.out.up u7)
  replace V6 := Lib.hid (V6.out.up u7)
  replace bxx := Blk.up bxx u7
  replace bx3 := Blk.up bx3 u7
  clear hU7 u7
  have s7 := (And.intro (tri bxx) (tri bx3))
  go_wp2_with fail
  refine hK.out _ _ s7 (fun _ => ?_)
  clear hK K'
  try simp only [Act.put, List.setIfInBounds_toArray, List.set_cons_zero, List.set_cons_succ]
  clear s6
  refine wpSched_take (i := 6) (v := ?_) (by as_aux_lemma => rw [HO5.out]; simp only [List.getElem?_toArray, List.getElem?_cons_succ, List.getElem?_cons_zero]; rfl) (Or.inl ⟨(by rfl), ?_⟩) ?_
  rotate_left
  · as_aux_lemma => intro wx hSx; (try dsimp only at hSx); go_simp; try with_reducible rfl
  try simp only [Act.put, List.setIfInBounds_toArray, List.set_cons_zero, List.set_cons_succ]
  refine wpSched_take (i := 7) (v := ?_) (by as_aux_lemma => rw [HO5.out]; simp only [List.getElem?_toArray, List.getElem?_cons_succ, List.getElem?_cons_zero]; rfl) (Or.inl ⟨(by rfl), ?_⟩) ?_
  rotate_left
  · as_aux_lemma => intro wx hSx; (try dsimp only at hSx); go_simp; try with_reducible rfl
  try simp only [Act.put, List.setIfInBounds_toArray, List.set_cons_zero, List.set_cons_succ]
  clear V3 V6
  refine wpSched_call (i := 8) (by as_aux_lemma => rw [HO5.out]; simp only [List.getElem?_toArray, List.getElem?_cons_succ, List.getElem?_cons_zero]; rfl) (by as_aux_lemma => rw [HO5.out]; rfl) (fun K' hK => ?_)
  go_simp
  go_at_call 15
  refine (awake01_any _).mono ?_
  rintro e w8 ⟨rfl, hU8⟩
  have u8 : Up w7 w8 := hU8
  replace U := Up.trans U u8
  replace Vx := Lib.hid (Vx.out.up u8)
  replace bxx := Blk.up bxx u8
  replace bx3 := Blk.up bx3 u8
  clear hU8 u8
  have s8 := (And.intro (tri bxx) (tri bx3))
  go_wp2_with fail
  refine hK.out _ _ s8 (fun _ => ?_)
  clear hK K'
  try simp only [Act.put, List.setIfInBounds_toArray, List.set_cons_zero, List.set_cons_succ]
  clear s7
  refine wpSched_take (i := 9) (v := ?_) (by as_aux_lemma => rw [HO5.out]; simp only [List.getElem?_toArray, List.getElem?_cons_succ, List.getElem?_cons_zero]; rfl) (Or.inl ⟨(by rfl), ?_⟩) ?_
  rotate_left
  · as_aux_lemma => intro wx hSx; (try dsimp only at hSx); go_simp; try with_reducible rfl
  try simp only [Act.put, List.setIfInBounds_toArray, List.set_cons_zero, List.set_cons_succ]
  refine wpSched_take (i := 10) (v := ?_) (by as_aux_lemma => rw [HO5.out]; simp only [List.getElem?_toArray, List.getElem?_cons_succ, List.getElem?_cons_zero]; rfl) (Or.inl ⟨(by rfl), ?_⟩) ?_
  rotate_left
  · as_aux_lemma => intro wx hSx; (try dsimp only at hSx); go_simp; try with_reducible rfl
  try simp only [Act.put, List.setIfInBounds_toArray, List.set_cons_zero, List.set_cons_succ]
  refine wpSched_end (NoPanic.normal ?_)
  clear HO5 O5 s8
  obtain ⟨bxxa, bxxb, bxxc⟩ := tri bxx
  obtain ⟨bx3a, bx3b, bx3c⟩ := tri bx3
  go_wp2_with fail
  go_ret
  exact ⟨rfl, U⟩
end Go.Proofs.YtefiapjfiojaoaaDoor
