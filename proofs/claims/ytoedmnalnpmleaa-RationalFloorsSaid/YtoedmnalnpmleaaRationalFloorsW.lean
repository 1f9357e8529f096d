/-
  RationalFloors: RationalFloors: for every rational number, in whatever form, the law returns true. Conditions: none. Conditions: none.
-/
import Derived.Test.YtoedmnalnpmleaaRMore
import Derived.Test.YtoedmnalnpmleaaSched
import Derived.Test.YtoedmnalnpmleaaRInteg
import Derived.Test.YtoedmnalnpmleaaSched5
import Derived.Test.YtoedmnalnpmleaaRFloorS
namespace Go.Proofs.Ytoedmnalnpmleaa
open Go.RowKit


theorem RationalFloors_facts {q r o x : Rat} (ef : q = (x.floor : Rat)) (eg : r = (x.ceil : Rat)) (eo : o = ((1 : Int) : Rat)) :
    (q.den == 1) = true ∧ (r.den == 1) = true ∧ sgn (q - x) ≤ 0 ∧ 0 < sgn (q + o - x) ∧ 0 ≤ sgn (r - x) ∧ sgn (r - o - x) < 0 := by
  have e1 : ((1 : Int) : Rat) = 1 := rfl
  have f1 : (x.floor : Rat) ≤ x := Rat.floor_le x
  have f2 : x < (x.floor : Rat) + 1 := by have h := Rat.lt_floor_add_one x; rwa [Rat.intCast_add] at h
  have g1 : x ≤ (x.ceil : Rat) := Rat.le_ceil
  have g2 : (x.ceil : Rat) < x + 1 := Rat.ceil_lt
  subst ef eg eo
  rw [e1]
  refine ⟨by simp, by simp, ?_, ?_, ?_, ?_⟩
  · rcases sgn_cases ((x.floor : Rat) - x) with ⟨h, e⟩ | ⟨h, e⟩ | ⟨h, e⟩ <;> rw [e] <;> first | omega | (exfalso; grind)
  · rw [sgn_pos (by grind)]; omega
  · rcases sgn_cases ((x.ceil : Rat) - x) with ⟨h, e⟩ | ⟨h, e⟩ | ⟨h, e⟩ <;> rw [e] <;> first | omega | (exfalso; grind)
  · rw [sgn_neg (by grind)]; omega

set_option maxRecDepth 100000 in
set_option maxHeartbeats 6400000 in
theorem RationalFloors_walk (vx : Value) (sx : Bool) (xsx ysx : List Nat) (w : World) (Rx : RV w vx sx xsx ysx) :
    Calls Try.prog 5 #[vx] w fun e w' => e = .returned (.bool true) ∧ Up w w' := by
  obtain ⟨Ax, cx, Bx, dx, hvx, lx, mx⟩ := Rx.shape
  have Kx := fun (wx : World) => keepRat_any sx Ax Bx xsx.length ysx.length cx dx wx lx mx
  by_cases kx : xsx.length ≤ 8 ∧ ysx.length ≤ 8
  case neg =>
    rw [show (decide (xsx.length ≤ 8) && decide (ysx.length ≤ 8)) = false from by rw [← Bool.decide_and, decide_eq_false_iff_not]; exact kx] at Kx
    replace Kx := Lib.hid Kx
    subst hvx
    clear  Rx kx 
    go_enter Try.func5, Try.ntmps5
    go_wp2_with fail
    obtain ⟨w0, hw0⟩ : ∃ wx, wx = (w.alloc (Obj.cells #[.bool sx, .slice Ax xsx.length cx, .slice Bx ysx.length dx] 24)) := ⟨_, rfl⟩
    have U : Up w w0 := by rw [hw0]; exact Below.alloc (Below.refl _ _) (Nat.le_refl _) _
    have bxx : Blk w0 (w.heap.size) 24 #[.bool sx, .slice Ax xsx.length cx, .slice Bx ysx.length dx] := by rw [hw0]; exact Blk.new' _ _ _ (by simp)
    rw [← hw0]
    clear hw0
    obtain ⟨bxxa, bxxb, bxxc⟩ := tri bxx
    refine (Kx.out w0).mono ?_
    rintro e w1 ⟨rfl, hU1⟩
    have u1 : Up w0 w1 := hU1
    replace U := Up.trans U u1
    replace bxx := Blk.up bxx u1
    clear hU1 u1
    clear bxxa bxxb bxxc
    obtain ⟨bxxa, bxxb, bxxc⟩ := tri bxx
    go_wp2_with fail
    go_ret
    exact ⟨rfl, U⟩
  rw [show (decide (xsx.length ≤ 8) && decide (ysx.length ≤ 8)) = true from by rw [← Bool.decide_and, decide_eq_true_iff]; exact kx] at Kx
  have Ix := Lib.hid (Rx.iv kx.1 kx.2)
  obtain ⟨x, hx⟩ : ∃ q, q = fq sx (nv xsx) (nv ysx) := ⟨_, rfl⟩
  rw [← hx] at Ix
  have Sx : Hid (qs x ≤ 9) := Lib.hid Ix.out.qs
  replace Kx := Lib.hid Kx
  clear hx kx
  subst hvx
  clear Rx
  go_enter Try.func5, Try.ntmps5
  go_wp2_with fail
  obtain ⟨w0, hw0⟩ : ∃ wx, wx = (w.alloc (Obj.cells #[.bool sx, .slice Ax xsx.length cx, .slice Bx ysx.length dx] 24)) := ⟨_, rfl⟩
  have U : Up w w0 := by rw [hw0]; exact Below.alloc (Below.refl _ _) (Nat.le_refl _) _
  have bxx : Blk w0 (w.heap.size) 24 #[.bool sx, .slice Ax xsx.length cx, .slice Bx ysx.length dx] := by rw [hw0]; exact Blk.new' _ _ _ (by simp)
  rw [← hw0]
  clear hw0
  obtain ⟨bxxa, bxxb, bxxc⟩ := tri bxx
  have Vx := Lib.hid (Ix.out.up U)
  refine (Kx.out w0).mono ?_
  rintro e w1 ⟨rfl, hU1⟩
  have u1 : Up w0 w1 := hU1
  replace U := Up.trans U u1
  replace Vx := Lib.hid (Vx.out.up u1)
  replace bxx := Blk.up bxx u1
  clear hU1 u1
  clear bxxa bxxb bxxc
  obtain ⟨bxxa, bxxb, bxxc⟩ := tri bxx
  go_upto_region 3 with fail
  obtain ⟨gx, hgx⟩ : ∃ g, g = w.heap.size := ⟨_, rfl⟩
  rw [← hgx] at bxx ⊢
  clear hgx bxxa bxxb bxxc
  have HE : Hid (∀ wx : World, Up w1 wx → wx.cell? ⟨gx, 0, none⟩ = some (.bool sx) ∧ wx.cell? ⟨gx, 1, none⟩ = some (.slice Ax xsx.length cx) ∧ wx.cell? ⟨gx, 2, none⟩ = some (.slice Bx ysx.length dx)) := Lib.hid fun wx u => tri (bxx.up u)
  have HFl := Lib.hid (fun wx (u : Up w1 wx) => floor_q (Vx.out.up u) (by omega))
  have HCe := Lib.hid (fun wx (u : Up w1 wx) => ceil_q (Vx.out.up u) (by omega))
  have HOn := Lib.hid (fun (wx : World) => fromInt_q (w := wx) 1 (by omega) (by omega))
  go_cut [3, 4, 5] from 9 to 13 (fun p3 p4 p5 wx => Up w1 wx ∧ BoxHold wx w1.heap.size p3 (x.floor : Rat) ∧ BoxHold wx w1.heap.size p4 (x.ceil : Rat) ∧ BoxHold wx w1.heap.size p5 ((1 : Int) : Rat))
  case first =>
    refine wp_region_noPanic ?_
    refine wp_region_done (fun d a u => ∃ x3 x4 x5 x9 x10 x11 x12 x13, a = { tmps := #[.agg #[.bool sx, .slice Ax xsx.length cx, .slice Bx ysx.length dx], .pointer (some ⟨gx, 0, none⟩), .bool false, x3, x4, x5, .agg #[.bool sx, .slice Ax xsx.length cx, .slice Bx ysx.length dx], .bool true, .bool false, x9, x10, x11, x12, x13, undef, undef, undef, undef, undef, undef, undef, undef, undef, undef, undef, undef, undef, undef, undef, undef, undef, undef, undef, undef, undef, undef, undef, undef, undef, undef, undef, undef, undef, undef, undef, undef, undef, undef, undef, undef, undef], defers := [] } ∧ FS w1 (.agg #[.bool sx, .slice Ax xsx.length cx, .slice Bx ysx.length dx]) (x.floor : Rat) (x.ceil : Rat) ((1 : Int) : Rat) d x3 x4 x5 x9 x10 x11 x12 x13 u) (by kernel_rfl) (by as_aux_lemma => kernel_rfl) ⟨_, _, _, _, _, _, _, _, rfl, FS.start⟩ ?_ ?_
    · rintro d a u hd ⟨x3, x4, x5, x9, x10, x11, x12, x13, rfl, h⟩
      refine NoPanic.normal ?_
      have hdn := Lib.hid hd
      have hh := Lib.hid h
      clear hd h
      go_wp2_with fail
      go_meet
      exact ⟨hh.out.up, hh.out.h3 (hdn.out 8 (by decide)), hh.out.h4 (hdn.out 9 (by decide)), hh.out.h5 (hdn.out 10 (by decide))⟩
    · rintro d a u ⟨x3, x4, x5, x9, x10, x11, x12, x13, rfl, h⟩ i hi hd hw
      have hi11 : i < 11 := hi
      have hh := Lib.hid h
      have hw := Lib.hid hw
      have kk := HE.out _ h.up
      clear hi h
      rcases (show i = 0 ∨ i = 1 ∨ i = 2 ∨ i = 3 ∨ i = 4 ∨ i = 5 ∨ i = 6 ∨ i = 7 ∨ i = 8 ∨ i = 9 ∨ i = 10 from by omega) with rfl | rfl | rfl | rfl | rfl | rfl | rfl | rfl | rfl | rfl | rfl
      · refine wpOp_shut (by rfl) (by rfl) (fun K' hK => ?_)
        go_simp
        go_wp2_with fail
        exact hK.out _ _ ⟨_, _, _, _, _, _, _, _, rfl, hh.out.s0⟩
      · obtain rfl := hh.out.e9 (hw.out 0 (by kernel_rfl))
        refine wpOp_shut (by rfl) (by rfl) (fun K' hK => ?_)
        go_simp
        refine (HFl.out _ hh.out.up).mono ?_
        rintro e w6 ⟨v6, rfl, hQ6, U6⟩
        have HQ6 := Lib.hid hQ6
        clear hQ6
        go_wp2_with fail
        exact hK.out _ _ ⟨_, _, _, _, _, _, _, _, rfl, (hh.out.mv U6).s1 HQ6.out⟩
      · refine wpOp_shut (by rfl) (by rfl) (fun K' hK => ?_)
        go_simp
        go_wp2_with fail
        exact hK.out _ _ ⟨_, _, _, _, _, _, _, _, rfl, hh.out.s2⟩
      · obtain rfl := hh.out.e11 (hw.out 2 (by kernel_rfl))
        refine wpOp_shut (by rfl) (by rfl) (fun K' hK => ?_)
        go_simp
        refine (HCe.out _ hh.out.up).mono ?_
        rintro e w6 ⟨v6, rfl, hQ6, U6⟩
        have HQ6 := Lib.hid hQ6
        clear hQ6
        go_wp2_with fail
        exact hK.out _ _ ⟨_, _, _, _, _, _, _, _, rfl, (hh.out.mv U6).s3 HQ6.out⟩
      · refine wpOp_shut (by rfl) (by rfl) (fun K' hK => ?_)
        go_simp
        refine (HOn.out _).mono ?_
        rintro e w6 ⟨v6, rfl, hQ6, U6⟩
        have HQ6 := Lib.hid hQ6
        clear hQ6
        go_wp2_with fail
        exact hK.out _ _ ⟨_, _, _, _, _, _, _, _, rfl, (hh.out.mv U6).s4 HQ6.out⟩
      · have hdk := Lib.hid hd
        clear hd
        refine wpOp_shut (by rfl) (by rfl) (fun K' hK => ?_)
        go_simp
        go_wp2_with fail
        exact hK.out _ _ ⟨_, _, _, _, _, _, _, _, rfl, hh.out.s5 hdk.out⟩
      · have hdk := Lib.hid hd
        clear hd
        refine wpOp_shut (by rfl) (by rfl) (fun K' hK => ?_)
        go_simp
        go_wp2_with fail
        exact hK.out _ _ ⟨_, _, _, _, _, _, _, _, rfl, hh.out.s6 hdk.out⟩
      · have hdk := Lib.hid hd
        clear hd
        refine wpOp_shut (by rfl) (by rfl) (fun K' hK => ?_)
        go_simp
        go_wp2_with fail
        exact hK.out _ _ ⟨_, _, _, _, _, _, _, _, rfl, hh.out.s7 hdk.out⟩
      · have hdk := Lib.hid hd
        clear hd
        have a5 := Lib.hid (hw.out 5 (by kernel_rfl))
        have a6 := Lib.hid (hw.out 6 (by kernel_rfl))
        have a7 := Lib.hid (hw.out 7 (by kernel_rfl))
        have av := Lib.hid (hw.out 1 (by kernel_rfl))
        obtain ⟨g3, rfl, hg3, hb3⟩ := hh.out.b3 a5.out hdk.out
        obtain ⟨s7, A7, n7, c7, B7, m7, d7, rfl⟩ := (hh.out.e10 av.out).shape
        have f0 := hb3.frozen 0
        have f1 := hb3.frozen 1
        have f2 := hb3.frozen 2
        simp only [zeroCells] at hb3
        obtain ⟨z0, z1, z2⟩ := tri hb3
        refine wpOp_shut (by rfl) (by rfl) (fun K' hK => ?_)
        go_simp
        go_wp2_with fail
        exact hK.out _ _ ⟨_, _, _, _, _, _, _, _, rfl, hh.out.s8 rfl rfl a5.out a6.out a7.out av.out hdk.out⟩
      · have hdk := Lib.hid hd
        clear hd
        have a5 := Lib.hid (hw.out 5 (by kernel_rfl))
        have a6 := Lib.hid (hw.out 6 (by kernel_rfl))
        have a7 := Lib.hid (hw.out 7 (by kernel_rfl))
        have av := Lib.hid (hw.out 3 (by kernel_rfl))
        have a9 := Lib.hid (hw.out 8 (by kernel_rfl))
        obtain ⟨g3, rfl, hg3, hb3⟩ := hh.out.b4 a6.out hdk.out
        obtain ⟨s7, A7, n7, c7, B7, m7, d7, rfl⟩ := (hh.out.e12 av.out).shape
        have f0 := hb3.frozen 0
        have f1 := hb3.frozen 1
        have f2 := hb3.frozen 2
        simp only [zeroCells] at hb3
        obtain ⟨z0, z1, z2⟩ := tri hb3
        refine wpOp_shut (by rfl) (by rfl) (fun K' hK => ?_)
        go_simp
        go_wp2_with fail
        exact hK.out _ _ ⟨_, _, _, _, _, _, _, _, rfl, hh.out.s9 rfl rfl a5.out a6.out a7.out av.out a9.out hdk.out⟩
      · have hdk := Lib.hid hd
        clear hd
        have a5 := Lib.hid (hw.out 5 (by kernel_rfl))
        have a6 := Lib.hid (hw.out 6 (by kernel_rfl))
        have a7 := Lib.hid (hw.out 7 (by kernel_rfl))
        have av := Lib.hid (hw.out 4 (by kernel_rfl))
        have a9 := Lib.hid (hw.out 9 (by kernel_rfl))
        obtain ⟨g3, rfl, hg3, hb3⟩ := hh.out.b5 a7.out hdk.out
        obtain ⟨s7, A7, n7, c7, B7, m7, d7, rfl⟩ := (hh.out.e13 av.out).shape
        have f0 := hb3.frozen 0
        have f1 := hb3.frozen 1
        have f2 := hb3.frozen 2
        simp only [zeroCells] at hb3
        obtain ⟨z0, z1, z2⟩ := tri hb3
        refine wpOp_shut (by rfl) (by rfl) (fun K' hK => ?_)
        go_simp
        go_wp2_with fail
        exact hK.out _ _ ⟨_, _, _, _, _, _, _, _, rfl, hh.out.s10 rfl rfl a5.out a6.out a7.out av.out a9.out hdk.out⟩
  case rest =>
    obtain ⟨U2, h3, h4, h5⟩ := hcut
    rename World => wr
    obtain ⟨s2x, A2, n2, c2, B2, m2, d2, ⟨g2, rfl, _, bx2⟩, hQ2⟩ := h3
    obtain ⟨q2, hq2⟩ : ∃ q, q = (x.floor : Rat) := ⟨_, rfl⟩
    rw [← hq2] at hQ2
    have S2 : Hid (qs q2 ≤ 10) := Lib.hid (by rw [hq2]; have := qs_floor x; have := Sx.out; omega)
    have E2 := Lib.hid hq2
    have V2 := Lib.hid hQ2
    clear hq2 hQ2
    obtain ⟨s3x, A3, n3, c3, B3, m3, d3, ⟨g3, rfl, _, bx3⟩, hQ3⟩ := h4
    obtain ⟨q3, hq3⟩ : ∃ q, q = (x.ceil : Rat) := ⟨_, rfl⟩
    rw [← hq3] at hQ3
    have S3 : Hid (qs q3 ≤ 10) := Lib.hid (by rw [hq3]; have := qs_ceil x; have := Sx.out; omega)
    have E3 := Lib.hid hq3
    have V3 := Lib.hid hQ3
    clear hq3 hQ3
    obtain ⟨s4x, A4, n4, c4, B4, m4, d4, ⟨g4, rfl, _, bx4⟩, hQ4⟩ := h5
    obtain ⟨q4, hq4⟩ : ∃ q, q = ((1 : Int) : Rat) := ⟨_, rfl⟩
    rw [← hq4] at hQ4
    have S4 : Hid (qs q4 ≤ 10) := Lib.hid (by rw [hq4]; have := qs_int 1 (by omega) (by omega); omega)
    have E4 := Lib.hid hq4
    have V4 := Lib.hid hQ4
    clear hq4 hQ4
    replace U := Up.trans U U2
    replace Vx := Lib.hid (Vx.out.up U2)
    replace bxx := Blk.up bxx U2
    clear U2 HE HFl HCe HOn
    have hf := Lib.hid (RationalFloors_facts E2.out E3.out E4.out)
    obtain ⟨z1, hz1⟩ : ∃ z, z = sgn (q2 - x) := ⟨_, rfl⟩
    have t1 : decide (z1 ≤ 0) = true := decide_eq_true (by rw [hz1]; exact hf.out.2.2.1)
    have HZ1 := Lib.hid hz1
    clear hz1
    obtain ⟨z2, hz2⟩ : ∃ z, z = sgn (q2 + q4 - x) := ⟨_, rfl⟩
    have t2 : decide (0 < z2) = true := decide_eq_true (by rw [hz2]; exact hf.out.2.2.2.1)
    have HZ2 := Lib.hid hz2
    clear hz2
    obtain ⟨z3, hz3⟩ : ∃ z, z = sgn (q3 - x) := ⟨_, rfl⟩
    have t3 : decide (0 ≤ z3) = true := decide_eq_true (by rw [hz3]; exact hf.out.2.2.2.2.1)
    have HZ3 := Lib.hid hz3
    clear hz3
    obtain ⟨z4, hz4⟩ : ∃ z, z = sgn (q3 - q4 - x) := ⟨_, rfl⟩
    have t4 : decide (z4 < 0) = true := decide_eq_true (by rw [hz4]; exact hf.out.2.2.2.2.2)
    have HZ4 := Lib.hid hz4
    clear hz4
    go_wp2_with fail
    have s5 := (And.intro (tri bxx) (And.intro (tri bx2) (And.intro (tri bx3) (tri bx4))))
    refine wp_region_noPanic ?_
    refine wp_region_sched (S := (fun wx => (wx.cell? ⟨gx, 0, none⟩ = some (.bool sx) ∧ wx.cell? ⟨gx, 1, none⟩ = some (.slice Ax xsx.length cx) ∧ wx.cell? ⟨gx, 2, none⟩ = some (.slice Bx ysx.length dx)) ∧ (wx.cell? ⟨g2, 0, none⟩ = some (.bool s2x) ∧ wx.cell? ⟨g2, 1, none⟩ = some (.slice A2 n2 c2) ∧ wx.cell? ⟨g2, 2, none⟩ = some (.slice B2 m2 d2)) ∧ (wx.cell? ⟨g3, 0, none⟩ = some (.bool s3x) ∧ wx.cell? ⟨g3, 1, none⟩ = some (.slice A3 n3 c3) ∧ wx.cell? ⟨g3, 2, none⟩ = some (.slice B3 m3 d3)) ∧ (wx.cell? ⟨g4, 0, none⟩ = some (.bool s4x) ∧ wx.cell? ⟨g4, 1, none⟩ = some (.slice A4 n4 c4) ∧ wx.cell? ⟨g4, 2, none⟩ = some (.slice B4 m4 d4)))) [(0, false), (1, true), (2, false), (3, false), (4, true), (5, false), (6, false), (7, false), (8, false), (9, true), (10, false), (11, false), (12, false), (13, false), (14, false), (16, false), (15, true), (17, true), (18, false), (19, false), (20, false), (21, false), (22, false), (23, true), (24, false), (25, false), (26, false), (27, false), (28, false), (30, false), (29, true), (31, true), (32, false), (33, false), (34, false), (35, true), (36, false), (37, false)] (by kernel_rfl) (by as_aux_lemma => kernel_rfl) (by as_aux_lemma => kernel_rfl) (by as_aux_lemma => kernel_rfl) (fun _ _ _ _ _ h => h) s5 ?_
    intro O5 HO5
    refine wpSched_take (i := 0) (v := ?_) (by as_aux_lemma => rw [HO5.out]; simp only [List.getElem?_toArray, List.getElem?_cons_zero]; rfl) (Or.inl ⟨(by rfl), ?_⟩) ?_
    rotate_left
    · as_aux_lemma => intro wx hSx; (try dsimp only at hSx); go_simp; try with_reducible rfl
    try simp only [Act.put, List.setIfInBounds_toArray, List.set_cons_zero, List.set_cons_succ]
    refine wpSched_call (i := 1) (by as_aux_lemma => rw [HO5.out]; simp only [List.getElem?_toArray, List.getElem?_cons_succ, List.getElem?_cons_zero]; rfl) (by rfl) (fun K' hK => ?_)
    go_simp
    go_at_call 20
    have T6 := integral_q ((V2.out.up (Up.refl wr).drew).iv S2.out) (by omega)
    rw [hf.out.1] at T6
    refine T6.mono ?_
    rintro e w6 ⟨rfl, hU6⟩
    clear T6
    have u6 : Up wr w6 := Up.trans (Up.refl wr).drew hU6
    replace U := Up.trans U u6
    replace Vx := Lib.hid (Vx.out.up u6)
    replace V2 := Lib.hid (V2.out.up u6)
    replace V3 := Lib.hid (V3.out.up u6)
    replace V4 := Lib.hid (V4.out.up u6)
    replace bxx := Blk.up bxx u6
    replace bx2 := Blk.up bx2 u6
    replace bx3 := Blk.up bx3 u6
    replace bx4 := Blk.up bx4 u6
    clear hU6 u6
    have s6 := (And.intro (tri bxx) (And.intro (tri bx2) (And.intro (tri bx3) (tri bx4))))
    go_wp2_with fail
    refine hK.out _ _ s6 (fun _ => ?_)
    clear hK K'
    try simp only [Act.put, List.setIfInBounds_toArray, List.set_cons_zero, List.set_cons_succ]
    clear s5
    refine wpSched_take (i := 2) (v := ?_) (by as_aux_lemma => rw [HO5.out]; simp only [List.getElem?_toArray, List.getElem?_cons_succ, List.getElem?_cons_zero]; rfl) (Or.inl ⟨(by rfl), ?_⟩) ?_
    rotate_left
    · as_aux_lemma => intro wx hSx; (try dsimp only at hSx); go_simp; try with_reducible rfl
    try simp only [Act.put, List.setIfInBounds_toArray, List.set_cons_zero, List.set_cons_succ]
    refine wpSched_take (i := 3) (v := ?_) (by as_aux_lemma => rw [HO5.out]; simp only [List.getElem?_toArray, List.getElem?_cons_succ, List.getElem?_cons_zero]; rfl) (Or.inl ⟨(by as_aux_lemma => rw [HO5.out]; rfl), ?_⟩) ?_
    rotate_left
    · as_aux_lemma => intro wx hSx; (try dsimp only at hSx); go_simp; try with_reducible rfl
    try simp only [Act.put, List.setIfInBounds_toArray, List.set_cons_zero, List.set_cons_succ]
    refine wpSched_call (i := 4) (by as_aux_lemma => rw [HO5.out]; simp only [List.getElem?_toArray, List.getElem?_cons_succ, List.getElem?_cons_zero]; rfl) (by as_aux_lemma => rw [HO5.out]; rfl) (fun K' hK => ?_)
    go_simp
    go_at_call 20
    have T7 := integral_q (V3.out.iv S3.out) (by omega)
    rw [hf.out.2.1] at T7
    refine T7.mono ?_
    rintro e w7 ⟨rfl, hU7⟩
    clear T7
    have u7 : Up w6 w7 := hU7
    replace U := Up.trans U u7
    replace Vx := Lib.hid (Vx.out.up u7)
    replace V2 := Lib.hid (V2.out.up u7)
    replace V3 := Lib.hid (V3.out.up u7)
    replace V4 := Lib.hid (V4.out.up u7)
    replace bxx := Blk.up bxx u7
    replace bx2 := Blk.up bx2 u7
    replace bx3 := Blk.up bx3 u7
    replace bx4 := Blk.up bx4 u7
    clear hU7 u7
    have s7 := (And.intro (tri bxx) (And.intro (tri bx2) (And.intro (tri bx3) (tri bx4))))
    go_wp2_with fail
    refine hK.out _ _ s7 (fun _ => ?_)
    clear hK K'
    try simp only [Act.put, List.setIfInBounds_toArray, List.set_cons_zero, List.set_cons_succ]
    clear s6
    refine wpSched_take (i := 5) (v := ?_) (by as_aux_lemma => rw [HO5.out]; simp only [List.getElem?_toArray, List.getElem?_cons_succ, List.getElem?_cons_zero]; rfl) (Or.inl ⟨(by rfl), ?_⟩) ?_
    rotate_left
    · as_aux_lemma => intro wx hSx; (try dsimp only at hSx); go_simp; try with_reducible rfl
    try simp only [Act.put, List.setIfInBounds_toArray, List.set_cons_zero, List.set_cons_succ]
    refine wpSched_take (i := 6) (v := ?_) (by as_aux_lemma => rw [HO5.out]; simp only [List.getElem?_toArray, List.getElem?_cons_succ, List.getElem?_cons_zero]; rfl) (Or.inl ⟨(by rfl), ?_⟩) ?_
    rotate_left
    · as_aux_lemma => intro wx hSx; (try dsimp only at hSx); go_simp; try with_reducible rfl
    try simp only [Act.put, List.setIfInBounds_toArray, List.set_cons_zero, List.set_cons_succ]
    refine wpSched_take (i := 7) (v := ?_) (by as_aux_lemma => rw [HO5.out]; simp only [List.getElem?_toArray, List.getElem?_cons_succ, List.getElem?_cons_zero]; rfl) (Or.inl ⟨(by as_aux_lemma => rw [HO5.out]; rfl), ?_⟩) ?_
    rotate_left
    · as_aux_lemma => intro wx hSx; (try dsimp only at hSx); go_simp; try with_reducible rfl
    try simp only [Act.put, List.setIfInBounds_toArray, List.set_cons_zero, List.set_cons_succ]
    refine wpSched_take (i := 8) (v := ?_) (by as_aux_lemma => rw [HO5.out]; simp only [List.getElem?_toArray, List.getElem?_cons_succ, List.getElem?_cons_zero]; rfl) (Or.inl ⟨(by as_aux_lemma => rw [HO5.out]; rfl), ?_⟩) ?_
    rotate_left
    · as_aux_lemma => intro wx hSx; (try dsimp only at hSx); go_simp; try with_reducible rfl
    try simp only [Act.put, List.setIfInBounds_toArray, List.set_cons_zero, List.set_cons_succ]
    refine wpSched_call (i := 9) (by as_aux_lemma => rw [HO5.out]; simp only [List.getElem?_toArray, List.getElem?_cons_succ, List.getElem?_cons_zero]; rfl) (by as_aux_lemma => rw [HO5.out]; rfl) (fun K' hK => ?_)
    go_simp
    go_at_call 17
    have T8 := cmp_q (V2.out.iv S2.out) Vx.out (by omega)
    rw [← HZ1.out] at T8
    refine T8.mono ?_
    rintro e w8 ⟨rfl, hU8⟩
    clear T8
    have u8 : Up w7 w8 := hU8
    replace U := Up.trans U u8
    replace Vx := Lib.hid (Vx.out.up u8)
    replace V2 := Lib.hid (V2.out.up u8)
    replace V3 := Lib.hid (V3.out.up u8)
    replace V4 := Lib.hid (V4.out.up u8)
    replace bxx := Blk.up bxx u8
    replace bx2 := Blk.up bx2 u8
    replace bx3 := Blk.up bx3 u8
    replace bx4 := Blk.up bx4 u8
    clear hU8 u8
    have s8 := (And.intro (tri bxx) (And.intro (tri bx2) (And.intro (tri bx3) (tri bx4))))
    go_wp2_with fail
    refine hK.out _ _ s8 (fun _ => ?_)
    clear hK K'
    try simp only [Act.put, List.setIfInBounds_toArray, List.set_cons_zero, List.set_cons_succ]
    clear s7
    refine wpSched_take (i := 10) (v := ?_) (by as_aux_lemma => rw [HO5.out]; simp only [List.getElem?_toArray, List.getElem?_cons_succ, List.getElem?_cons_zero]; rfl) (Or.inl ⟨(by as_aux_lemma => rw [HO5.out]; rfl), ?_⟩) ?_
    rotate_left
    · as_aux_lemma => intro wx hSx; (try dsimp only at hSx); go_simp; try with_reducible rfl
    try simp only [Act.put, List.setIfInBounds_toArray, List.set_cons_zero, List.set_cons_succ]
    refine wpSched_take (i := 11) (v := ?_) (by as_aux_lemma => rw [HO5.out]; simp only [List.getElem?_toArray, List.getElem?_cons_succ, List.getElem?_cons_zero]; rfl) (Or.inl ⟨(by rfl), ?_⟩) ?_
    rotate_left
    · as_aux_lemma => intro wx hSx; (try dsimp only at hSx); go_simp; try with_reducible rfl
    try simp only [Act.put, List.setIfInBounds_toArray, List.set_cons_zero, List.set_cons_succ]
    refine wpSched_take (i := 12) (v := ?_) (by as_aux_lemma => rw [HO5.out]; simp only [List.getElem?_toArray, List.getElem?_cons_succ, List.getElem?_cons_zero]; rfl) (Or.inl ⟨(by rfl), ?_⟩) ?_
    rotate_left
    · as_aux_lemma => intro wx hSx; (try dsimp only at hSx); go_simp; try with_reducible rfl
    try simp only [Act.put, List.setIfInBounds_toArray, List.set_cons_zero, List.set_cons_succ]
    refine wpSched_take (i := 13) (v := ?_) (by as_aux_lemma => rw [HO5.out]; simp only [List.getElem?_toArray, List.getElem?_cons_succ, List.getElem?_cons_zero]; rfl) (Or.inl ⟨(by as_aux_lemma => rw [HO5.out]; rfl), ?_⟩) ?_
    rotate_left
    · as_aux_lemma => intro wx hSx; (try dsimp only at hSx); go_simp; try with_reducible rfl
    try simp only [Act.put, List.setIfInBounds_toArray, List.set_cons_zero, List.set_cons_succ]
    refine wpSched_take (i := 14) (v := ?_) (by as_aux_lemma => rw [HO5.out]; simp only [List.getElem?_toArray, List.getElem?_cons_succ, List.getElem?_cons_zero]; rfl) (Or.inl ⟨(by as_aux_lemma => rw [HO5.out]; rfl), ?_⟩) ?_
    rotate_left
    · as_aux_lemma => intro wx hSx; (try dsimp only at hSx); go_simp; try with_reducible rfl
    try simp only [Act.put, List.setIfInBounds_toArray, List.set_cons_zero, List.set_cons_succ]
    refine wpSched_take (i := 16) (v := ?_) (by as_aux_lemma => rw [HO5.out]; simp only [List.getElem?_toArray, List.getElem?_cons_succ, List.getElem?_cons_zero]; rfl) (Or.inl ⟨(by as_aux_lemma => rw [HO5.out]; rfl), ?_⟩) ?_
    rotate_left
    · as_aux_lemma => intro wx hSx; (try dsimp only at hSx); go_simp; try with_reducible rfl
    try simp only [Act.put, List.setIfInBounds_toArray, List.set_cons_zero, List.set_cons_succ]
    refine wpSched_call (i := 15) (by as_aux_lemma => rw [HO5.out]; simp only [List.getElem?_toArray, List.getElem?_cons_succ, List.getElem?_cons_zero]; rfl) (by as_aux_lemma => rw [HO5.out]; rfl) (fun K' hK => ?_)
    go_simp
    go_at_call 14
    refine (add_q (V2.out.iv S2.out) (V4.out.iv S4.out) (by omega)).mono ?_
    rintro e w9 ⟨v9, rfl, hQ9, hU9⟩
    obtain ⟨s9x, A9, n9, c9, B9, m9, d9, rfl⟩ := hQ9.shape
    obtain ⟨q9, hq9⟩ : ∃ q, q = q2 + q4 := ⟨_, rfl⟩
    rw [← hq9] at hQ9
    have S9 : Hid (qs q9 ≤ 21) := Lib.hid (by (rw [hq9]; have := qs_add q2 q4; have := S2.out; have := S4.out; omega))
    have E9 := Lib.hid hq9
    clear hq9
    have V9 := Lib.hid hQ9
    clear hQ9
    have u9 : Up w8 w9 := hU9
    replace U := Up.trans U u9
    replace Vx := Lib.hid (Vx.out.up u9)
    replace V2 := Lib.hid (V2.out.up u9)
    replace V3 := Lib.hid (V3.out.up u9)
    replace V4 := Lib.hid (V4.out.up u9)
    replace bxx := Blk.up bxx u9
    replace bx2 := Blk.up bx2 u9
    replace bx3 := Blk.up bx3 u9
    replace bx4 := Blk.up bx4 u9
    clear hU9 u9
    have s9 := (And.intro (tri bxx) (And.intro (tri bx2) (And.intro (tri bx3) (tri bx4))))
    go_wp2_with fail
    refine hK.out _ _ s9 (fun _ => ?_)
    clear hK K'
    try simp only [Act.put, List.setIfInBounds_toArray, List.set_cons_zero, List.set_cons_succ]
    clear s8
    refine wpSched_call (i := 17) (by as_aux_lemma => rw [HO5.out]; simp only [List.getElem?_toArray, List.getElem?_cons_succ, List.getElem?_cons_zero]; rfl) (by as_aux_lemma => rw [HO5.out]; rfl) (fun K' hK => ?_)
    go_simp
    go_at_call 17
    have T10 := cmp_q (V9.out.iv S9.out) Vx.out (by omega)
    rw [show sgn (q9 - x) = z2 from by rw [E9.out]; exact HZ2.out.symm] at T10
    refine T10.mono ?_
    rintro e w10 ⟨rfl, hU10⟩
    clear T10
    have u10 : Up w9 w10 := hU10
    replace U := Up.trans U u10
    replace Vx := Lib.hid (Vx.out.up u10)
    replace V2 := Lib.hid (V2.out.up u10)
    replace V3 := Lib.hid (V3.out.up u10)
    replace V4 := Lib.hid (V4.out.up u10)
    replace V9 := Lib.hid (V9.out.up u10)
    replace bxx := Blk.up bxx u10
    replace bx2 := Blk.up bx2 u10
    replace bx3 := Blk.up bx3 u10
    replace bx4 := Blk.up bx4 u10
    clear hU10 u10
    have s10 := (And.intro (tri bxx) (And.intro (tri bx2) (And.intro (tri bx3) (tri bx4))))
    go_wp2_with fail
    refine hK.out _ _ s10 (fun _ => ?_)
    clear hK K'
    try simp only [Act.put, List.setIfInBounds_toArray, List.set_cons_zero, List.set_cons_succ]
    clear s9
    refine wpSched_take (i := 18) (v := ?_) (by as_aux_lemma => rw [HO5.out]; simp only [List.getElem?_toArray, List.getElem?_cons_succ, List.getElem?_cons_zero]; rfl) (Or.inl ⟨(by as_aux_lemma => rw [HO5.out]; rfl), ?_⟩) ?_
    rotate_left
    · as_aux_lemma => intro wx hSx; (try dsimp only at hSx); go_simp; try with_reducible rfl
    try simp only [Act.put, List.setIfInBounds_toArray, List.set_cons_zero, List.set_cons_succ]
    refine wpSched_take (i := 19) (v := ?_) (by as_aux_lemma => rw [HO5.out]; simp only [List.getElem?_toArray, List.getElem?_cons_succ, List.getElem?_cons_zero]; rfl) (Or.inl ⟨(by rfl), ?_⟩) ?_
    rotate_left
    · as_aux_lemma => intro wx hSx; (try dsimp only at hSx); go_simp; try with_reducible rfl
    try simp only [Act.put, List.setIfInBounds_toArray, List.set_cons_zero, List.set_cons_succ]
    refine wpSched_take (i := 20) (v := ?_) (by as_aux_lemma => rw [HO5.out]; simp only [List.getElem?_toArray, List.getElem?_cons_succ, List.getElem?_cons_zero]; rfl) (Or.inl ⟨(by rfl), ?_⟩) ?_
    rotate_left
    · as_aux_lemma => intro wx hSx; (try dsimp only at hSx); go_simp; try with_reducible rfl
    try simp only [Act.put, List.setIfInBounds_toArray, List.set_cons_zero, List.set_cons_succ]
    refine wpSched_take (i := 21) (v := ?_) (by as_aux_lemma => rw [HO5.out]; simp only [List.getElem?_toArray, List.getElem?_cons_succ, List.getElem?_cons_zero]; rfl) (Or.inl ⟨(by as_aux_lemma => rw [HO5.out]; rfl), ?_⟩) ?_
    rotate_left
    · as_aux_lemma => intro wx hSx; (try dsimp only at hSx); go_simp; try with_reducible rfl
    try simp only [Act.put, List.setIfInBounds_toArray, List.set_cons_zero, List.set_cons_succ]
    refine wpSched_take (i := 22) (v := ?_) (by as_aux_lemma => rw [HO5.out]; simp only [List.getElem?_toArray, List.getElem?_cons_succ, List.getElem?_cons_zero]; rfl) (Or.inl ⟨(by as_aux_lemma => rw [HO5.out]; rfl), ?_⟩) ?_
    rotate_left
    · as_aux_lemma => intro wx hSx; (try dsimp only at hSx); go_simp; try with_reducible rfl
    try simp only [Act.put, List.setIfInBounds_toArray, List.set_cons_zero, List.set_cons_succ]
    clear V9
    refine wpSched_call (i := 23) (by as_aux_lemma => rw [HO5.out]; simp only [List.getElem?_toArray, List.getElem?_cons_succ, List.getElem?_cons_zero]; rfl) (by as_aux_lemma => rw [HO5.out]; rfl) (fun K' hK => ?_)
    go_simp
    go_at_call 17
    have T11 := cmp_q (V3.out.iv S3.out) Vx.out (by omega)
    rw [← HZ3.out] at T11
    refine T11.mono ?_
    rintro e w11 ⟨rfl, hU11⟩
    clear T11
    have u11 : Up w10 w11 := hU11
    replace U := Up.trans U u11
    replace Vx := Lib.hid (Vx.out.up u11)
    replace V2 := Lib.hid (V2.out.up u11)
    replace V3 := Lib.hid (V3.out.up u11)
    replace V4 := Lib.hid (V4.out.up u11)
    replace bxx := Blk.up bxx u11
    replace bx2 := Blk.up bx2 u11
    replace bx3 := Blk.up bx3 u11
    replace bx4 := Blk.up bx4 u11
    clear hU11 u11
    have s11 := (And.intro (tri bxx) (And.intro (tri bx2) (And.intro (tri bx3) (tri bx4))))
    go_wp2_with fail
    refine hK.out _ _ s11 (fun _ => ?_)
    clear hK K'
    try simp only [Act.put, List.setIfInBounds_toArray, List.set_cons_zero, List.set_cons_succ]
    clear s10
    refine wpSched_take (i := 24) (v := ?_) (by as_aux_lemma => rw [HO5.out]; simp only [List.getElem?_toArray, List.getElem?_cons_succ, List.getElem?_cons_zero]; rfl) (Or.inl ⟨(by as_aux_lemma => rw [HO5.out]; rfl), ?_⟩) ?_
    rotate_left
    · as_aux_lemma => intro wx hSx; (try dsimp only at hSx); go_simp; try with_reducible rfl
    try simp only [Act.put, List.setIfInBounds_toArray, List.set_cons_zero, List.set_cons_succ]
    refine wpSched_take (i := 25) (v := ?_) (by as_aux_lemma => rw [HO5.out]; simp only [List.getElem?_toArray, List.getElem?_cons_succ, List.getElem?_cons_zero]; rfl) (Or.inl ⟨(by rfl), ?_⟩) ?_
    rotate_left
    · as_aux_lemma => intro wx hSx; (try dsimp only at hSx); go_simp; try with_reducible rfl
    try simp only [Act.put, List.setIfInBounds_toArray, List.set_cons_zero, List.set_cons_succ]
    refine wpSched_take (i := 26) (v := ?_) (by as_aux_lemma => rw [HO5.out]; simp only [List.getElem?_toArray, List.getElem?_cons_succ, List.getElem?_cons_zero]; rfl) (Or.inl ⟨(by rfl), ?_⟩) ?_
    rotate_left
    · as_aux_lemma => intro wx hSx; (try dsimp only at hSx); go_simp; try with_reducible rfl
    try simp only [Act.put, List.setIfInBounds_toArray, List.set_cons_zero, List.set_cons_succ]
    refine wpSched_take (i := 27) (v := ?_) (by as_aux_lemma => rw [HO5.out]; simp only [List.getElem?_toArray, List.getElem?_cons_succ, List.getElem?_cons_zero]; rfl) (Or.inl ⟨(by as_aux_lemma => rw [HO5.out]; rfl), ?_⟩) ?_
    rotate_left
    · as_aux_lemma => intro wx hSx; (try dsimp only at hSx); go_simp; try with_reducible rfl
    try simp only [Act.put, List.setIfInBounds_toArray, List.set_cons_zero, List.set_cons_succ]
    refine wpSched_take (i := 28) (v := ?_) (by as_aux_lemma => rw [HO5.out]; simp only [List.getElem?_toArray, List.getElem?_cons_succ, List.getElem?_cons_zero]; rfl) (Or.inl ⟨(by as_aux_lemma => rw [HO5.out]; rfl), ?_⟩) ?_
    rotate_left
    · as_aux_lemma => intro wx hSx; (try dsimp only at hSx); go_simp; try with_reducible rfl
    try simp only [Act.put, List.setIfInBounds_toArray, List.set_cons_zero, List.set_cons_succ]
    refine wpSched_take (i := 30) (v := ?_) (by as_aux_lemma => rw [HO5.out]; simp only [List.getElem?_toArray, List.getElem?_cons_succ, List.getElem?_cons_zero]; rfl) (Or.inl ⟨(by as_aux_lemma => rw [HO5.out]; rfl), ?_⟩) ?_
    rotate_left
    · as_aux_lemma => intro wx hSx; (try dsimp only at hSx); go_simp; try with_reducible rfl
    try simp only [Act.put, List.setIfInBounds_toArray, List.set_cons_zero, List.set_cons_succ]
    refine wpSched_call (i := 29) (by as_aux_lemma => rw [HO5.out]; simp only [List.getElem?_toArray, List.getElem?_cons_succ, List.getElem?_cons_zero]; rfl) (by as_aux_lemma => rw [HO5.out]; rfl) (fun K' hK => ?_)
    go_simp
    go_at_call 15
    refine (sub_q (V3.out.iv S3.out) (V4.out.iv S4.out) (by omega)).mono ?_
    rintro e w12 ⟨v12, rfl, hQ12, hU12⟩
    obtain ⟨s12x, A12, n12, c12, B12, m12, d12, rfl⟩ := hQ12.shape
    obtain ⟨q12, hq12⟩ : ∃ q, q = q3 - q4 := ⟨_, rfl⟩
    rw [← hq12] at hQ12
    have S12 : Hid (qs q12 ≤ 21) := Lib.hid (by (rw [hq12]; have := qs_sub q3 q4; have := S3.out; have := S4.out; omega))
    have E12 := Lib.hid hq12
    clear hq12
    have V12 := Lib.hid hQ12
    clear hQ12
    have u12 : Up w11 w12 := hU12
    replace U := Up.trans U u12
    replace Vx := Lib.hid (Vx.out.up u12)
    replace V2 := Lib.hid (V2.out.up u12)
    replace V3 := Lib.hid (V3.out.up u12)
    replace V4 := Lib.hid (V4.out.up u12)
    replace bxx := Blk.up bxx u12
    replace bx2 := Blk.up bx2 u12
    replace bx3 := Blk.up bx3 u12
    replace bx4 := Blk.up bx4 u12
    clear hU12 u12
    have s12 := (And.intro (tri bxx) (And.intro (tri bx2) (And.intro (tri bx3) (tri bx4))))
    go_wp2_with fail
    refine hK.out _ _ s12 (fun _ => ?_)
    clear hK K'
    try simp only [Act.put, List.setIfInBounds_toArray, List.set_cons_zero, List.set_cons_succ]
    clear s11
    refine wpSched_call (i := 31) (by as_aux_lemma => rw [HO5.out]; simp only [List.getElem?_toArray, List.getElem?_cons_succ, List.getElem?_cons_zero]; rfl) (by as_aux_lemma => rw [HO5.out]; rfl) (fun K' hK => ?_)
    go_simp
    go_at_call 17
    have T13 := cmp_q (V12.out.iv S12.out) Vx.out (by omega)
    rw [show sgn (q12 - x) = z4 from by rw [E12.out]; exact HZ4.out.symm] at T13
    refine T13.mono ?_
    rintro e w13 ⟨rfl, hU13⟩
    clear T13
    have u13 : Up w12 w13 := hU13
    replace U := Up.trans U u13
    replace Vx := Lib.hid (Vx.out.up u13)
    replace V2 := Lib.hid (V2.out.up u13)
    replace V3 := Lib.hid (V3.out.up u13)
    replace V4 := Lib.hid (V4.out.up u13)
    replace V12 := Lib.hid (V12.out.up u13)
    replace bxx := Blk.up bxx u13
    replace bx2 := Blk.up bx2 u13
    replace bx3 := Blk.up bx3 u13
    replace bx4 := Blk.up bx4 u13
    clear hU13 u13
    have s13 := (And.intro (tri bxx) (And.intro (tri bx2) (And.intro (tri bx3) (tri bx4))))
    go_wp2_with fail
    refine hK.out _ _ s13 (fun _ => ?_)
    clear hK K'
    try simp only [Act.put, List.setIfInBounds_toArray, List.set_cons_zero, List.set_cons_succ]
    clear s12
    refine wpSched_take (i := 32) (v := ?_) (by as_aux_lemma => rw [HO5.out]; simp only [List.getElem?_toArray, List.getElem?_cons_succ, List.getElem?_cons_zero]; rfl) (Or.inl ⟨(by as_aux_lemma => rw [HO5.out]; rfl), ?_⟩) ?_
    rotate_left
    · as_aux_lemma => intro wx hSx; (try dsimp only at hSx); go_simp; try with_reducible rfl
    try simp only [Act.put, List.setIfInBounds_toArray, List.set_cons_zero, List.set_cons_succ]
    refine wpSched_take (i := 33) (v := ?_) (by as_aux_lemma => rw [HO5.out]; simp only [List.getElem?_toArray, List.getElem?_cons_succ, List.getElem?_cons_zero]; rfl) (Or.inl ⟨(by rfl), ?_⟩) ?_
    rotate_left
    · as_aux_lemma => intro wx hSx; (try dsimp only at hSx); go_simp; try with_reducible rfl
    try simp only [Act.put, List.setIfInBounds_toArray, List.set_cons_zero, List.set_cons_succ]
    refine wpSched_take (i := 34) (v := ?_) (by as_aux_lemma => rw [HO5.out]; simp only [List.getElem?_toArray, List.getElem?_cons_succ, List.getElem?_cons_zero]; rfl) (Or.inl ⟨(by rfl), ?_⟩) ?_
    rotate_left
    · as_aux_lemma => intro wx hSx; (try dsimp only at hSx); go_simp; try with_reducible rfl
    try simp only [Act.put, List.setIfInBounds_toArray, List.set_cons_zero, List.set_cons_succ]
    clear V12
    refine wpSched_call (i := 35) (by as_aux_lemma => rw [HO5.out]; simp only [List.getElem?_toArray, List.getElem?_cons_succ, List.getElem?_cons_zero]; rfl) (by as_aux_lemma => rw [HO5.out]; rfl) (fun K' hK => ?_)
    go_simp
    go_at_call 16
    refine (awake01_any _).mono ?_
    rintro e w14 ⟨rfl, hU14⟩
    have u14 : Up w13 w14 := hU14
    replace U := Up.trans U u14
    replace Vx := Lib.hid (Vx.out.up u14)
    replace V2 := Lib.hid (V2.out.up u14)
    replace V3 := Lib.hid (V3.out.up u14)
    replace V4 := Lib.hid (V4.out.up u14)
    replace bxx := Blk.up bxx u14
    replace bx2 := Blk.up bx2 u14
    replace bx3 := Blk.up bx3 u14
    replace bx4 := Blk.up bx4 u14
    clear hU14 u14
    have s14 := (And.intro (tri bxx) (And.intro (tri bx2) (And.intro (tri bx3) (tri bx4))))
    go_wp2_with fail
    refine hK.out _ _ s14 (fun _ => ?_)
    clear hK K'
    try simp only [Act.put, List.setIfInBounds_toArray, List.set_cons_zero, List.set_cons_succ]
    clear s13
    refine wpSched_take (i := 36) (v := ?_) (by as_aux_lemma => rw [HO5.out]; simp only [List.getElem?_toArray, List.getElem?_cons_succ, List.getElem?_cons_zero]; rfl) (Or.inl ⟨(by rfl), ?_⟩) ?_
    rotate_left
    · as_aux_lemma => intro wx hSx; (try dsimp only at hSx); go_simp; try with_reducible rfl
    try simp only [Act.put, List.setIfInBounds_toArray, List.set_cons_zero, List.set_cons_succ]
    refine wpSched_take (i := 37) (v := ?_) (by as_aux_lemma => rw [HO5.out]; simp only [List.getElem?_toArray, List.getElem?_cons_succ, List.getElem?_cons_zero]; rfl) (Or.inl ⟨(by rfl), ?_⟩) ?_
    rotate_left
    · as_aux_lemma => intro wx hSx; (try dsimp only at hSx); go_simp; try with_reducible rfl
    try simp only [Act.put, List.setIfInBounds_toArray, List.set_cons_zero, List.set_cons_succ]
    refine wpSched_end (NoPanic.normal ?_)
    clear HO5 O5 s14
    obtain ⟨bxxa, bxxb, bxxc⟩ := tri bxx
    obtain ⟨bx2a, bx2b, bx2c⟩ := tri bx2
    obtain ⟨bx3a, bx3b, bx3c⟩ := tri bx3
    obtain ⟨bx4a, bx4b, bx4c⟩ := tri bx4
    go_wp2_with fail
    go_ret
    exact ⟨rfl, U⟩
end Go.Proofs.Ytoedmnalnpmleaa
