/-
  RationalFormats: for every rational number, in whatever form, the law returns true. Conditions: none.
-/
import Derived.Test.YtefiapjfiojaoaaDoorFFormat
import Derived.Test.YtefiapjfiojaoaaDoorPD
import Derived.Test.YtefiapjfiojaoaaDoorPA
namespace Go.Proofs.YtefiapjfiojaoaaDoor
open Go.RowKit


set_option maxRecDepth 100000 in
set_option maxHeartbeats 6400000 in
theorem RationalFormats_walk (vx : Value) (sx : Bool) (xsx ysx : List Nat) (w : World) (Rx : RV w vx sx xsx ysx) (htab : TabW w) :
    Calls Tryd.prog 5 #[vx] w fun e w' => e = .returned (.bool true) ∧ Up w w' := by
  have HT := Lib.hid htab
  clear htab
  obtain ⟨Ax, cx, Bx, dx, hvx, lx, mx⟩ := Rx.shape
  have Kx := fun (wx : World) => keepRat_any sx Ax Bx xsx.length ysx.length cx dx wx lx mx
  by_cases kx : xsx.length ≤ 8 ∧ ysx.length ≤ 8
  case neg =>
    rw [show (decide (xsx.length ≤ 8) && decide (ysx.length ≤ 8)) = false from by rw [← Bool.decide_and, decide_eq_false_iff_not]; exact kx] at Kx
    replace Kx := Lib.hid Kx
    subst hvx
    clear  Rx kx 
    go_enter Tryd.func5, Tryd.ntmps5
    go_wp2_with fail
    obtain ⟨w0, hw0⟩ : ∃ wx, wx = (w.alloc (Obj.cells #[.bool sx, .slice Ax xsx.length cx, .slice Bx ysx.length dx] 24)) := ⟨_, rfl⟩
    have U : Up w w0 := by rw [hw0]; exact Below.alloc (Below.refl _ _) (Nat.le_refl _) _
    have bxx : Blk w0 (w.heap.size) 24 #[.bool sx, .slice Ax xsx.length cx, .slice Bx ysx.length dx] := by rw [hw0]; exact Blk.new' _ _ _ (by simp)
    rw [← hw0]
    clear hw0
    obtain ⟨bxxa, bxxb, bxxc⟩ := tri bxx
    refine (Kx.out w0).mono ?_
    rintro e w1 ⟨rfl, hU1⟩
    have u1 : Up w0 w1 := hU1
    replace U := Up.trans U u1
    replace bxx := Blk.up bxx u1
    clear hU1 u1
    clear bxxa bxxb bxxc
    obtain ⟨bxxa, bxxb, bxxc⟩ := tri bxx
    go_wp2_with fail
    go_ret
    exact ⟨rfl, U⟩
  rw [show (decide (xsx.length ≤ 8) && decide (ysx.length ≤ 8)) = true from by rw [← Bool.decide_and, decide_eq_true_iff]; exact kx] at Kx
  have Ix := Lib.hid (Rx.iv kx.1 kx.2)
  obtain ⟨x, hx⟩ : ∃ q, q = fq sx (nv xsx) (nv ysx) := ⟨_, rfl⟩
  rw [← hx] at Ix
  have Sx : Hid (qs x ≤ 9) := Lib.hid Ix.out.qs
  replace Kx := Lib.hid Kx
  clear hx kx
  subst hvx
  clear Rx
  go_enter Tryd.func5, Tryd.ntmps5
  go_wp2_with fail
  obtain ⟨w0, hw0⟩ : ∃ wx, wx = (w.alloc (Obj.cells #[.bool sx, .slice Ax xsx.length cx, .slice Bx ysx.length dx] 24)) := ⟨_, rfl⟩
  have U : Up w w0 := by rw [hw0]; exact Below.alloc (Below.refl _ _) (Nat.le_refl _) _
  have bxx : Blk w0 (w.heap.size) 24 #[.bool sx, .slice Ax xsx.length cx, .slice Bx ysx.length dx] := by rw [hw0]; exact Blk.new' _ _ _ (by simp)
  rw [← hw0]
  clear hw0
  obtain ⟨bxxa, bxxb, bxxc⟩ := tri bxx
  have Vx := Lib.hid (Ix.out.up U)
  refine (Kx.out w0).mono ?_
  rintro e w1 ⟨rfl, hU1⟩
  have u1 : Up w0 w1 := hU1
  replace U := Up.trans U u1
  replace Vx := Lib.hid (Vx.out.up u1)
  replace bxx := Blk.up bxx u1
  clear hU1 u1
  clear bxxa bxxb bxxc
  obtain ⟨bxxa, bxxb, bxxc⟩ := tri bxx
  obtain ⟨TX, hTX⟩ : ∃ T, T = (⟨(ftext x).toArray⟩ : ByteArray) := ⟨_, rfl⟩
  have HTX := Lib.hid hTX
  clear hTX
  go_wp2_with fail
  clear bxxa bxxb bxxc
  have s2 := (tri bxx)
  refine wp_region_noPanic ?_
  refine wp_region_sched (S := (fun wx => (wx.cell? ⟨w.heap.size, 0, none⟩ = some (.bool sx) ∧ wx.cell? ⟨w.heap.size, 1, none⟩ = some (.slice Ax xsx.length cx) ∧ wx.cell? ⟨w.heap.size, 2, none⟩ = some (.slice Bx ysx.length dx)))) [(0, false), (2, false), (1, true), (3, true), (4, false), (5, false), (6, true), (7, false), (8, false)] (by kernel_rfl) (by as_aux_lemma => kernel_rfl) (by as_aux_lemma => kernel_rfl) (by as_aux_lemma => kernel_rfl) (fun _ _ _ _ _ h => h) s2 ?_
  intro O2 HO2
  refine wpSched_take (i := 0) (v := ?_) (by as_aux_lemma => rw [HO2.out]; simp only [List.getElem?_toArray, List.getElem?_cons_zero]; rfl) (Or.inl ⟨(by rfl), ?_⟩) ?_
  rotate_left
  · as_aux_lemma => intro wx hSx; (try dsimp only at hSx); go_simp; try with_reducible rfl
  try simp only [Act.put, List.setIfInBounds_toArray, List.set_cons_zero, List.set_cons_succ]
  refine wpSched_take (i := 2) (v := ?_) (by as_aux_lemma => rw [HO2.out]; simp only [List.getElem?_toArray, List.getElem?_cons_succ, List.getElem?_cons_zero]; rfl) (Or.inl ⟨(by rfl), ?_⟩) ?_
  rotate_left
  · as_aux_lemma => intro wx hSx; (try dsimp only at hSx); go_simp; try with_reducible rfl
  try simp only [Act.put, List.setIfInBounds_toArray, List.set_cons_zero, List.set_cons_succ]
  refine wpSched_call (i := 1) (by as_aux_lemma => rw [HO2.out]; simp only [List.getElem?_toArray, List.getElem?_cons_succ, List.getElem?_cons_zero]; rfl) (by rfl) (fun K' hK => ?_)
  go_simp
  go_at_call 14
  refine (format_q (Vx.out.up (Up.refl w1).drew) (by omega) (HT.out.up (Up.trans U (Up.refl w1).drew))).mono ?_
  rintro e w3 ⟨he3, hU3⟩
  rw [← HTX.out] at he3
  subst he3
  have u3 : Up w1 w3 := Up.trans (Up.refl w1).drew hU3
  replace U := Up.trans U u3
  replace Vx := Lib.hid (Vx.out.up u3)
  replace bxx := Blk.up bxx u3
  clear hU3 u3
  have s3 := (tri bxx)
  go_wp2_with fail
  refine hK.out _ _ s3 (fun _ => ?_)
  clear hK K'
  try simp only [Act.put, List.setIfInBounds_toArray, List.set_cons_zero, List.set_cons_succ]
  clear s2
  refine wpSched_call (i := 3) (by as_aux_lemma => rw [HO2.out]; simp only [List.getElem?_toArray, List.getElem?_cons_succ, List.getElem?_cons_zero]; rfl) (by rfl) (fun K' hK => ?_)
  go_simp
  go_at_call 17
  refine (rFormat_q Vx.out (by omega)).mono ?_
  rintro e w4 ⟨he4, hU4⟩
  rw [← HTX.out] at he4
  subst he4
  have u4 : Up w3 w4 := hU4
  replace U := Up.trans U u4
  replace Vx := Lib.hid (Vx.out.up u4)
  replace bxx := Blk.up bxx u4
  clear hU4 u4
  have s4 := (tri bxx)
  go_wp2_with fail
  refine hK.out _ _ s4 (fun _ => ?_)
  clear hK K'
  try simp only [Act.put, List.setIfInBounds_toArray, List.set_cons_zero, List.set_cons_succ]
  clear s3
  refine wpSched_take (i := 4) (v := ?_) (by as_aux_lemma => rw [HO2.out]; simp only [List.getElem?_toArray, List.getElem?_cons_succ, List.getElem?_cons_zero]; rfl) (Or.inl ⟨(by rfl), ?_⟩) ?_
  rotate_left
  · as_aux_lemma => intro wx hSx; (try dsimp only at hSx); go_simp; try with_reducible rfl
  try simp only [Act.put, List.setIfInBounds_toArray, List.set_cons_zero, List.set_cons_succ]
  refine wpSched_take (i := 5) (v := ?_) (by as_aux_lemma => rw [HO2.out]; simp only [List.getElem?_toArray, List.getElem?_cons_succ, List.getElem?_cons_zero]; rfl) (Or.inl ⟨(by rfl), ?_⟩) ?_
  rotate_left
  · as_aux_lemma => intro wx hSx; (try dsimp only at hSx); go_simp; try with_reducible rfl
  try simp only [Act.put, List.setIfInBounds_toArray, List.set_cons_zero, List.set_cons_succ]
  refine wpSched_call (i := 6) (by as_aux_lemma => rw [HO2.out]; simp only [List.getElem?_toArray, List.getElem?_cons_succ, List.getElem?_cons_zero]; rfl) (by as_aux_lemma => rw [HO2.out]; rfl) (fun K' hK => ?_)
  go_simp
  go_at_call 15
  refine (awake01_any _).mono ?_
  rintro e w5 ⟨rfl, hU5⟩
  have u5 : Up w4 w5 := hU5
  replace U := Up.trans U u5
  replace Vx := Lib.hid (Vx.out.up u5)
  replace bxx := Blk.up bxx u5
  clear hU5 u5
  have s5 := (tri bxx)
  go_wp2_with fail
  refine hK.out _ _ s5 (fun _ => ?_)
  clear hK K'
  try simp only [Act.put, List.setIfInBounds_toArray, List.set_cons_zero, List.set_cons_succ]
  clear s4
  refine wpSched_take (i := 7) (v := ?_) (by as_aux_lemma => rw [HO2.out]; simp only [List.getElem?_toArray, List.getElem?_cons_succ, List.getElem?_cons_zero]; rfl) (Or.inl ⟨(by rfl), ?_⟩) ?_
  rotate_left
  · as_aux_lemma => intro wx hSx; (try dsimp only at hSx); go_simp; try with_reducible rfl
  try simp only [Act.put, List.setIfInBounds_toArray, List.set_cons_zero, List.set_cons_succ]
  refine wpSched_take (i := 8) (v := ?_) (by as_aux_lemma => rw [HO2.out]; simp only [List.getElem?_toArray, List.getElem?_cons_succ, List.getElem?_cons_zero]; rfl) (Or.inl ⟨(by rfl), ?_⟩) ?_
  rotate_left
  · as_aux_lemma => intro wx hSx; (try dsimp only at hSx); go_simp; try with_reducible rfl
  try simp only [Act.put, List.setIfInBounds_toArray, List.set_cons_zero, List.set_cons_succ]
  refine wpSched_end (NoPanic.normal ?_)
  clear HO2 O2 s5
  obtain ⟨bxxa, bxxb, bxxc⟩ := tri bxx
  go_wp2_with fail
  go_ret
  exact ⟨rfl, U⟩
end Go.Proofs.YtefiapjfiojaoaaDoor
