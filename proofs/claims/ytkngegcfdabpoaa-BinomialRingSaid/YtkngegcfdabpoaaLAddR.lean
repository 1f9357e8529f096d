/-
  The document's Add on lists.
-/
import Derived.Test.YtkngegcfdabpoaaLAdd
import Derived.Test.YtkngegcfdabpoaaLCanR
import Derived.Test.YtkngegcfdabpoaaLAt
import Derived.Test.YtkngegcfdabpoaaPF
import Derived.Test.YtkngegcfdabpoaaPI
namespace Go.Proofs.Ytkngegcfdabpoaa
open Go.RowKit

theorem padd_take (ps rs : List Rat) (i : Nat) (h : i < max ps.length rs.length) : (padd ps rs).take (i + 1) = (padd ps rs).take i ++ [(padd ps rs).getD i 0] := by
  have hl : i < (padd ps rs).length := by rw [padd_len]; exact h
  rw [List.take_succ_eq_append_getElem hl, getD_eq hl]

set_option maxRecDepth 100000 in
set_option maxHeartbeats 6400000 in
theorem rAddL_q {o1 o2 : Option Nat} {A1 A2 : Option Addr} {c1 c2 : Nat} {ps rs : List Rat} {B : Nat} {w : World} (h1 : RX o1 w A1 ps) (h2 : RX o2 w A2 rs) (hB1 : ∀ q ∈ ps, XB o1 q B) (hB2 : ∀ q ∈ rs, XB o2 q B) (hB : 2 ≤ B) (hB' : B ≤ 2000000) (hl1 : ps.length ≤ 1000) (hl2 : rs.length ≤ 1000) :
    Calls Try.prog 23 #[.slice A1 ps.length c1, .slice A2 rs.length c2] w (RetLB w (addV ps rs) (addB ps rs)) := by
  have HNO := @add_no ps rs
  by_cases hyes : ps.length ≤ 33 ∧ rs.length ≤ 33
  · have HP := Lib.hid (add_yes hyes)
    have hq1 := h1.qs hB1
    have hq2 := h2.qs hB2
    have HM := Lib.hid (padd_mem hq1 hq2 (by omega))
    have HLN := Lib.hid (padd_len ps rs)
    have HR1 := Lib.hid (h1.iv hB1)
    have HR2 := Lib.hid (h2.iv hB2)
    obtain ⟨L1, hL1⟩ : ∃ L, L = ps.length := ⟨_, rfl⟩
    obtain ⟨L2, hL2⟩ : ∃ L, L = rs.length := ⟨_, rfl⟩
    have HL1 := Lib.hid hL1
    have HL2 := Lib.hid hL2
    rw [← hL1] at hl1 hyes ⊢
    rw [← hL2] at hl2 hyes ⊢
    obtain ⟨h33, h33'⟩ := hyes
    have t0 : decide (33 < L1) = false := by simp; omega
    have t0i : decide ((33 : Int) < (L1 : Int)) = false := by simp; omega
    have t1 : decide (33 < L2) = false := by simp; omega
    have t1i : decide ((33 : Int) < (L2 : Int)) = false := by simp; omega
    clear h1 h2 hB1 hB2 hq1 hq2 HNO hL1 hL2
    go_enter Try.func23, Try.ntmps23
    go_wp2_with fail
    go_loopw [6, 7] (fun v iv wr => ∃ i : Nat, i ≤ max L1 L2 ∧ iv = .int .i64 i ∧ Hid (AX none wr w.heap.size v ((padd ps rs).take i)) ∧ Up w wr) (fun _ iv _ => max L1 L2 - (intOf iv).toNat)
    case atStart => exact ⟨0, Nat.zero_le _, rfl, Lib.hid AX.nil_, Up.refl _⟩
    case round =>
      obtain ⟨i, hi, rfl, HA, hU⟩ := hrel
      clear t0 t0i t1 t1i
      have i1 : (0 : Int) ≤ i := by omega
      have i2 : (i : Int) ≤ 33 := by omega
      by_cases q1 : i < L1
      · by_cases q2 : i < L2
        · obtain ⟨b1, o1, s1, X1, a1, d1, Y1, m1, e1, rfl, hb1, hx1, p10, p11, p12⟩ := (HR1.out.up hU).at_ (k := i) (by have := HL1.out; omega)
          have u1 : decide ((i : Int) < (L1 : Int)) = true := by simp; omega
          have u2 : decide (i < L1) = true := by simp; omega
          have j1 : (i : Int) < L1 := by omega
          have HX1 := Lib.hid hx1
          clear hx1
          obtain ⟨b2, o2, s2, X2, a2, d2, Y2, m2, e2, rfl, hb2, hx2, p20, p21, p22⟩ := (HR2.out.up hU).at_ (k := i) (by have := HL2.out; omega)
          have v1 : decide ((i : Int) < (L2 : Int)) = true := by simp; omega
          have v2 : decide (i < L2) = true := by simp; omega
          have j2 : (i : Int) < L2 := by omega
          have HX2 := Lib.hid hx2
          clear hx2
          have HSUM := Lib.hid (show ((0 : Int) : Rat) + ps.getD i 0 + rs.getD i 0 = (padd ps rs).getD i 0 by rw [padd_getD]; have h00 : ((0 : Int) : Rat) = 0 := rfl; grind)
          have HT := Lib.hid (padd_take ps rs i (by have := HL1.out; have := HL2.out; omega))
          obtain ⟨z, hz⟩ : ∃ z, z = (padd ps rs).getD i 0 := ⟨_, rfl⟩
          rw [← hz] at HSUM HT
          have HLT := Lib.hid (show ((padd ps rs).take i).length + [z].length ≤ 1000000 by have := HLN.out; have := HL1.out; have := HL2.out; simp [HLN.out]; omega)
          clear hz  
          have hsz0 := hU.size
          go_wp2_with fail
          refine (rFromInt_q 0 (by omega) (by omega)).mono ?_
          rintro e w2 ⟨v2', rfl, hQ2, U2⟩
          obtain ⟨s22, A22, n22, c22, B22, m22, d22, rfl⟩ := hQ2.shape
          have HQ2 := Lib.hid hQ2
          have hsz2 := U2.size
          clear hQ2
          go_wp2_with fail
          obtain ⟨w3, hw3⟩ : ∃ w3, w3 = w2.alloc (Obj.cells #[.bool s22, .slice A22 n22 c22, .slice B22 m22 d22] 31) := ⟨_, rfl⟩
          have U3 : Up w2 w3 := by rw [hw3]; exact (Below.refl _ _).alloc (Nat.le_refl _) _
          have b3 : Blk w3 w2.heap.size 31 #[.bool s22, .slice A22 n22 c22, .slice B22 m22 d22] := by rw [hw3]; exact Blk.new' _ _ _ rfl
          rw [← hw3]
          obtain ⟨g8, hg8⟩ : ∃ g, g = w2.heap.size := ⟨_, rfl⟩
          have hge8 : wr.heap.size ≤ g8 := by omega
          rw [← hg8] at b3 ⊢
          have W3 := U2.trans U3
          clear hw3 hg8
          have HC1 := Lib.hid (fun wx (u : Up w3 wx) => rAdd_q (QV.iv ((HQ2.out.up U3).up u) (B := 3) (qs_int 0 (by omega) (by omega))) (XV.iv ((HX1.out).up (W3.trans u)) (B := B) (Nat.le_refl _)) (by omega))
          have hb1w : b1 < w3.heap.size := Nat.lt_of_lt_of_le hb1 W3.size
          replace p10 := (W3.cell (p := ⟨b1, o1 + i * 3, none⟩) hb1).trans p10
          replace p11 := (W3.cell (p := ⟨b1, o1 + i * 3 + 1, none⟩) hb1).trans p11
          replace p12 := (W3.cell (p := ⟨b1, o1 + i * 3 + 2, none⟩) hb1).trans p12
          have HE : Hid (∀ W : World, Up w3 W → (W.cell? ⟨g8, 0, none⟩ = some (.bool s22) ∧ W.cell? ⟨g8, 1, none⟩ = some (.slice A22 n22 c22) ∧ W.cell? ⟨g8, 2, none⟩ = some (.slice B22 m22 d22)) ∧ (W.cell? ⟨b1, o1 + i * 3, none⟩ = some (.bool s1) ∧ W.cell? ⟨b1, o1 + i * 3 + 1, none⟩ = some (.slice X1 a1 d1) ∧ W.cell? ⟨b1, o1 + i * 3 + 2, none⟩ = some (.slice Y1 m1 e1))) := Lib.hid fun W hW => And.intro (tri (b3.up hW)) (⟨by rw [hW.cell (by exact hb1w)]; exact p10, by rw [hW.cell (by exact hb1w)]; exact p11, by rw [hW.cell (by exact hb1w)]; exact p12⟩)
          refine wp_region_noPanic ?_
          refine wp_region_till (S := (fun wx => (wx.cell? ⟨g8, 0, none⟩ = some (.bool s22) ∧ wx.cell? ⟨g8, 1, none⟩ = some (.slice A22 n22 c22) ∧ wx.cell? ⟨g8, 2, none⟩ = some (.slice B22 m22 d22)) ∧ (wx.cell? ⟨b1, o1 + i * 3, none⟩ = some (.bool s1) ∧ wx.cell? ⟨b1, o1 + i * 3 + 1, none⟩ = some (.slice X1 a1 d1) ∧ wx.cell? ⟨b1, o1 + i * 3 + 2, none⟩ = some (.slice Y1 m1 e1)))) 6 [(0, 0), (1, 0), (2, 0), (3, 0), (4, 0), (5, 1)] [6] (by kernel_rfl) (by as_aux_lemma => kernel_rfl) (by as_aux_lemma => kernel_rfl) (by as_aux_lemma => kernel_rfl) (fun _ _ _ _ _ h => h) (HE.out _ (Up.refl w3).drew) ?_
          intro O1 HO1
          refine wpT_take (i := 0) (v := ?_) (by as_aux_lemma => rw [HO1.out]; simp only [List.getElem?_toArray, List.getElem?_cons_zero]; rfl) (Or.inl ⟨(by rfl), ?_⟩) ?_
          rotate_left
          · as_aux_lemma => intro wx hSx; (try dsimp only at hSx); go_simp; try with_reducible rfl
          try simp only [Act.put, List.setIfInBounds_toArray, List.set_cons_zero, List.set_cons_succ]
          refine wpT_take (i := 1) (v := ?_) (by as_aux_lemma => rw [HO1.out]; simp only [List.getElem?_toArray, List.getElem?_cons_succ, List.getElem?_cons_zero]; rfl) (Or.inl ⟨(by rfl), ?_⟩) ?_
          rotate_left
          · as_aux_lemma => intro wx hSx; (try dsimp only at hSx); go_simp; try with_reducible rfl
          try simp only [Act.put, List.setIfInBounds_toArray, List.set_cons_zero, List.set_cons_succ]
          refine wpT_take (i := 2) (v := ?_) (by as_aux_lemma => rw [HO1.out]; simp only [List.getElem?_toArray, List.getElem?_cons_succ, List.getElem?_cons_zero]; rfl) (Or.inl ⟨(by rfl), ?_⟩) ?_
          rotate_left
          · as_aux_lemma => intro wx hSx; (try dsimp only at hSx); go_simp; try with_reducible rfl
          try simp only [Act.put, List.setIfInBounds_toArray, List.set_cons_zero, List.set_cons_succ]
          refine wpT_take (i := 3) (v := ?_) (by as_aux_lemma => rw [HO1.out]; simp only [List.getElem?_toArray, List.getElem?_cons_succ, List.getElem?_cons_zero]; rfl) (Or.inl ⟨(by rfl), ?_⟩) ?_
          rotate_left
          · as_aux_lemma => intro wx hSx; (try dsimp only at hSx); go_simp; try with_reducible rfl
          try simp only [Act.put, List.setIfInBounds_toArray, List.set_cons_zero, List.set_cons_succ]
          refine wpT_take (i := 4) (v := ?_) (by as_aux_lemma => rw [HO1.out]; simp only [List.getElem?_toArray, List.getElem?_cons_succ, List.getElem?_cons_zero]; rfl) (Or.inl ⟨(by rfl), ?_⟩) ?_
          rotate_left
          · as_aux_lemma => intro wx hSx; (try dsimp only at hSx); go_simp; try with_reducible rfl
          try simp only [Act.put, List.setIfInBounds_toArray, List.set_cons_zero, List.set_cons_succ]
          refine wpT_call (i := 5) (by as_aux_lemma => rw [HO1.out]; simp only [List.getElem?_toArray, List.getElem?_cons_succ, List.getElem?_cons_zero]; rfl) (by rfl) (fun K' hK => ?_)
          go_simp
          refine (HC1.out _ (Up.refl w3).drew).mono ?_
          rintro e w5 ⟨v5, rfl, hQ5, U5⟩
          obtain ⟨s5, A5, n5, c5, B5, m5, d5, rfl⟩ := hQ5.shape
          have HQ5 := Lib.hid hQ5
          have V5 : Up w3 w5 := Up.trans (Up.refl w3).drew U5
          have kk5 := HE.out _ V5
          clear hQ5
          have x8 := b3.up V5
          obtain ⟨k0, k1, k2⟩ := tri x8
          have f0 := x8.frozen 0
          have f1 := x8.frozen 1
          have f2 := x8.frozen 2
          go_wp2_with fail
          refine hK.out _ _ kk5 (fun _ => ?_)
          clear hK K'
          try simp only [Act.put, List.setIfInBounds_toArray, List.set_cons_zero, List.set_cons_succ]
          refine wpT_tail (i := 6) (by as_aux_lemma => rw [HO1.out]; simp only [List.getElem?_toArray, List.getElem?_cons_succ, List.getElem?_cons_zero]; rfl) (by rfl) (fun K' hK => ?_)
          go_simp
          go_wp2_with fail
          refine hK.out _ _ ?_
          clear hK K'
          try simp only [Act.put, List.setIfInBounds_toArray, List.set_cons_zero, List.set_cons_succ]
          refine wpT_end (NoPanic.normal ?_)
          clear HO1 O1
          have b5' := tri_set x8 (.bool s5) (.slice A5 n5 c5) (.slice B5 m5 d5)
          have q5' := QV.kp HQ5.out (Kp.tri (Kp.refl w5) x8 (s' := s5) (C := A5) (m := n5) (d := c5) (C' := B5) (m' := m5) (d' := d5))
          have W5' := up_tri (W3.trans V5) hge8 (.bool s5) (.slice A5 n5 c5) (.slice B5 m5 d5)
          obtain ⟨w5', hw5'⟩ : ∃ x, x = ((w5.setCell ⟨g8, 0, none⟩ (.bool s5)).setCell ⟨g8, 1, none⟩ (.slice A5 n5 c5)).setCell ⟨g8, 2, none⟩ (.slice B5 m5 d5) := ⟨_, rfl⟩
          rw [← hw5'] at b5' q5' W5' ⊢
          clear hw5' x8 k0 k1 k2 f0 f1 f2 HE
          go_wp2_with fail
          have HS5 := Lib.hid (show qs (((0 : Int) : Rat) + ps.getD i 0) ≤ 3 + (B + 1) + 1 from Nat.le_trans (qs_add _ _) (by have := qs_int 0 (by omega) (by omega); have := XB.le (B := B) HX1.out (Nat.le_refl _); omega))
          have HC2 := Lib.hid (fun wx (u : Up w5' wx) => rAdd_q (QV.iv (q5'.up u) (B := (3 + (B + 1) + 1)) HS5.out) (XV.iv ((HX2.out).up (W5'.trans u)) (B := B) (Nat.le_refl _)) (by omega))
          have hb2w : b2 < w5'.heap.size := Nat.lt_of_lt_of_le hb2 W5'.size
          replace p20 := (W5'.cell (p := ⟨b2, o2 + i * 3, none⟩) hb2).trans p20
          replace p21 := (W5'.cell (p := ⟨b2, o2 + i * 3 + 1, none⟩) hb2).trans p21
          replace p22 := (W5'.cell (p := ⟨b2, o2 + i * 3 + 2, none⟩) hb2).trans p22
          have HE : Hid (∀ W : World, Up w5' W → (W.cell? ⟨g8, 0, none⟩ = some (.bool s5) ∧ W.cell? ⟨g8, 1, none⟩ = some (.slice A5 n5 c5) ∧ W.cell? ⟨g8, 2, none⟩ = some (.slice B5 m5 d5)) ∧ (W.cell? ⟨b2, o2 + i * 3, none⟩ = some (.bool s2) ∧ W.cell? ⟨b2, o2 + i * 3 + 1, none⟩ = some (.slice X2 a2 d2) ∧ W.cell? ⟨b2, o2 + i * 3 + 2, none⟩ = some (.slice Y2 m2 e2))) := Lib.hid fun W hW => And.intro (tri (b5'.up hW)) (⟨by rw [hW.cell (by exact hb2w)]; exact p20, by rw [hW.cell (by exact hb2w)]; exact p21, by rw [hW.cell (by exact hb2w)]; exact p22⟩)
          refine wp_region_noPanic ?_
          refine wp_region_till (S := (fun wx => (wx.cell? ⟨g8, 0, none⟩ = some (.bool s5) ∧ wx.cell? ⟨g8, 1, none⟩ = some (.slice A5 n5 c5) ∧ wx.cell? ⟨g8, 2, none⟩ = some (.slice B5 m5 d5)) ∧ (wx.cell? ⟨b2, o2 + i * 3, none⟩ = some (.bool s2) ∧ wx.cell? ⟨b2, o2 + i * 3 + 1, none⟩ = some (.slice X2 a2 d2) ∧ wx.cell? ⟨b2, o2 + i * 3 + 2, none⟩ = some (.slice Y2 m2 e2)))) 6 [(0, 0), (1, 0), (2, 0), (3, 0), (4, 0), (5, 1)] [6] (by kernel_rfl) (by as_aux_lemma => kernel_rfl) (by as_aux_lemma => kernel_rfl) (by as_aux_lemma => kernel_rfl) (fun _ _ _ _ _ h => h) (HE.out _ (Up.refl w5').drew) ?_
          intro O2 HO2
          refine wpT_take (i := 0) (v := ?_) (by as_aux_lemma => rw [HO2.out]; simp only [List.getElem?_toArray, List.getElem?_cons_zero]; rfl) (Or.inl ⟨(by rfl), ?_⟩) ?_
          rotate_left
          · as_aux_lemma => intro wx hSx; (try dsimp only at hSx); go_simp; try with_reducible rfl
          try simp only [Act.put, List.setIfInBounds_toArray, List.set_cons_zero, List.set_cons_succ]
          refine wpT_take (i := 1) (v := ?_) (by as_aux_lemma => rw [HO2.out]; simp only [List.getElem?_toArray, List.getElem?_cons_succ, List.getElem?_cons_zero]; rfl) (Or.inl ⟨(by rfl), ?_⟩) ?_
          rotate_left
          · as_aux_lemma => intro wx hSx; (try dsimp only at hSx); go_simp; try with_reducible rfl
          try simp only [Act.put, List.setIfInBounds_toArray, List.set_cons_zero, List.set_cons_succ]
          refine wpT_take (i := 2) (v := ?_) (by as_aux_lemma => rw [HO2.out]; simp only [List.getElem?_toArray, List.getElem?_cons_succ, List.getElem?_cons_zero]; rfl) (Or.inl ⟨(by rfl), ?_⟩) ?_
          rotate_left
          · as_aux_lemma => intro wx hSx; (try dsimp only at hSx); go_simp; try with_reducible rfl
          try simp only [Act.put, List.setIfInBounds_toArray, List.set_cons_zero, List.set_cons_succ]
          refine wpT_take (i := 3) (v := ?_) (by as_aux_lemma => rw [HO2.out]; simp only [List.getElem?_toArray, List.getElem?_cons_succ, List.getElem?_cons_zero]; rfl) (Or.inl ⟨(by rfl), ?_⟩) ?_
          rotate_left
          · as_aux_lemma => intro wx hSx; (try dsimp only at hSx); go_simp; try with_reducible rfl
          try simp only [Act.put, List.setIfInBounds_toArray, List.set_cons_zero, List.set_cons_succ]
          refine wpT_take (i := 4) (v := ?_) (by as_aux_lemma => rw [HO2.out]; simp only [List.getElem?_toArray, List.getElem?_cons_succ, List.getElem?_cons_zero]; rfl) (Or.inl ⟨(by rfl), ?_⟩) ?_
          rotate_left
          · as_aux_lemma => intro wx hSx; (try dsimp only at hSx); go_simp; try with_reducible rfl
          try simp only [Act.put, List.setIfInBounds_toArray, List.set_cons_zero, List.set_cons_succ]
          refine wpT_call (i := 5) (by as_aux_lemma => rw [HO2.out]; simp only [List.getElem?_toArray, List.getElem?_cons_succ, List.getElem?_cons_zero]; rfl) (by rfl) (fun K' hK => ?_)
          go_simp
          refine (HC2.out _ (Up.refl w5').drew).mono ?_
          rintro e w7 ⟨v7, rfl, hQ7, U7⟩
          obtain ⟨s7, A7, n7, c7, B7, m7, d7, rfl⟩ := hQ7.shape
          have HQ7 := Lib.hid hQ7
          have V7 : Up w5' w7 := Up.trans (Up.refl w5').drew U7
          have kk7 := HE.out _ V7
          clear hQ7
          have x8 := b5'.up V7
          obtain ⟨k0, k1, k2⟩ := tri x8
          have f0 := x8.frozen 0
          have f1 := x8.frozen 1
          have f2 := x8.frozen 2
          go_wp2_with fail
          refine hK.out _ _ kk7 (fun _ => ?_)
          clear hK K'
          try simp only [Act.put, List.setIfInBounds_toArray, List.set_cons_zero, List.set_cons_succ]
          refine wpT_tail (i := 6) (by as_aux_lemma => rw [HO2.out]; simp only [List.getElem?_toArray, List.getElem?_cons_succ, List.getElem?_cons_zero]; rfl) (by rfl) (fun K' hK => ?_)
          go_simp
          go_wp2_with fail
          refine hK.out _ _ ?_
          clear hK K'
          try simp only [Act.put, List.setIfInBounds_toArray, List.set_cons_zero, List.set_cons_succ]
          refine wpT_end (NoPanic.normal ?_)
          clear HO2 O2
          have b7' := tri_set x8 (.bool s7) (.slice A7 n7 c7) (.slice B7 m7 d7)
          have q7' := QV.kp HQ7.out (Kp.tri (Kp.refl w7) x8 (s' := s7) (C := A7) (m := n7) (d := c7) (C' := B7) (m' := m7) (d' := d7))
          have W7' := up_tri (W5'.trans V7) hge8 (.bool s7) (.slice A7 n7 c7) (.slice B7 m7 d7)
          obtain ⟨w7', hw7'⟩ : ∃ x, x = ((w7.setCell ⟨g8, 0, none⟩ (.bool s7)).setCell ⟨g8, 1, none⟩ (.slice A7 n7 c7)).setCell ⟨g8, 2, none⟩ (.slice B7 m7 d7) := ⟨_, rfl⟩
          rw [← hw7'] at b7' q7' W7' ⊢
          clear hw7' x8 k0 k1 k2 f0 f1 f2 HE
          obtain ⟨k0, k1, k2⟩ := tri b7'
          have U13 : Up w7' (w7'.alloc (Obj.cells #[.bool s7, .slice A7 n7 c7, .slice B7 m7 d7] 31)) := Below.alloc (Up.refl _) (Nat.le_refl _) _
          have HA13 := Lib.hid (HA.out.up (W7'.trans U13))
          have hq13 := q7'
          rw [HSUM.out] at hq13
          have HR13 := Lib.hid (RX.one (m := none) (Blk.new w7' 31 #[.bool s7, .slice A7 n7 c7, .slice B7 m7 d7]) (hq13.up U13))
          have hV13 := hU.trans (W7'.trans U13)
          have hsz := hV13.size
          clear hq13 U13
          go_wp2_with (first
            | (at_builtin; refine wpList_append_rats rfl _ _ rfl rfl HA13.out rfl rfl HR13.out (fun h => by cases h) HLT.out hsz ?_))
          intro v14 w14 hA14
          have hV14 := hA14.below hV13 HA13.out hsz
          have HA14 := hA14.own
          rw [← HT.out] at HA14
          have HA14 := Lib.hid HA14
          clear hA14 hsz hV13
          go_wp2_with fail
          go_roundw
          case rel => exact ⟨i + 1, by omega, by go_num, HA14, hV14⟩
          case measure => simp [intOf]; omega
        · obtain ⟨b1, o1, s1, X1, a1, d1, Y1, m1, e1, rfl, hb1, hx1, p10, p11, p12⟩ := (HR1.out.up hU).at_ (k := i) (by have := HL1.out; omega)
          have u1 : decide ((i : Int) < (L1 : Int)) = true := by simp; omega
          have u2 : decide (i < L1) = true := by simp; omega
          have j1 : (i : Int) < L1 := by omega
          have HX1 := Lib.hid hx1
          clear hx1
          have hz2 : rs.getD i 0 = 0 := getD_len (by have := HL2.out; omega)
          have v1 : decide ((i : Int) < (L2 : Int)) = false := by simp; omega
          have v2 : decide (i < L2) = false := by simp; omega
          have HSUM := Lib.hid (show ((0 : Int) : Rat) + ps.getD i 0 = (padd ps rs).getD i 0 by rw [padd_getD]; have h00 : ((0 : Int) : Rat) = 0 := rfl; grind)
          have HT := Lib.hid (padd_take ps rs i (by have := HL1.out; have := HL2.out; omega))
          obtain ⟨z, hz⟩ : ∃ z, z = (padd ps rs).getD i 0 := ⟨_, rfl⟩
          rw [← hz] at HSUM HT
          have HLT := Lib.hid (show ((padd ps rs).take i).length + [z].length ≤ 1000000 by have := HLN.out; have := HL1.out; have := HL2.out; simp [HLN.out]; omega)
          clear hz  hz2
          have hsz0 := hU.size
          go_wp2_with fail
          refine (rFromInt_q 0 (by omega) (by omega)).mono ?_
          rintro e w2 ⟨v2', rfl, hQ2, U2⟩
          obtain ⟨s22, A22, n22, c22, B22, m22, d22, rfl⟩ := hQ2.shape
          have HQ2 := Lib.hid hQ2
          have hsz2 := U2.size
          clear hQ2
          go_wp2_with fail
          obtain ⟨w3, hw3⟩ : ∃ w3, w3 = w2.alloc (Obj.cells #[.bool s22, .slice A22 n22 c22, .slice B22 m22 d22] 31) := ⟨_, rfl⟩
          have U3 : Up w2 w3 := by rw [hw3]; exact (Below.refl _ _).alloc (Nat.le_refl _) _
          have b3 : Blk w3 w2.heap.size 31 #[.bool s22, .slice A22 n22 c22, .slice B22 m22 d22] := by rw [hw3]; exact Blk.new' _ _ _ rfl
          rw [← hw3]
          obtain ⟨g8, hg8⟩ : ∃ g, g = w2.heap.size := ⟨_, rfl⟩
          have hge8 : wr.heap.size ≤ g8 := by omega
          rw [← hg8] at b3 ⊢
          have W3 := U2.trans U3
          clear hw3 hg8
          have HC1 := Lib.hid (fun wx (u : Up w3 wx) => rAdd_q (QV.iv ((HQ2.out.up U3).up u) (B := 3) (qs_int 0 (by omega) (by omega))) (XV.iv ((HX1.out).up (W3.trans u)) (B := B) (Nat.le_refl _)) (by omega))
          have hb1w : b1 < w3.heap.size := Nat.lt_of_lt_of_le hb1 W3.size
          replace p10 := (W3.cell (p := ⟨b1, o1 + i * 3, none⟩) hb1).trans p10
          replace p11 := (W3.cell (p := ⟨b1, o1 + i * 3 + 1, none⟩) hb1).trans p11
          replace p12 := (W3.cell (p := ⟨b1, o1 + i * 3 + 2, none⟩) hb1).trans p12
          have HE : Hid (∀ W : World, Up w3 W → (W.cell? ⟨g8, 0, none⟩ = some (.bool s22) ∧ W.cell? ⟨g8, 1, none⟩ = some (.slice A22 n22 c22) ∧ W.cell? ⟨g8, 2, none⟩ = some (.slice B22 m22 d22)) ∧ (W.cell? ⟨b1, o1 + i * 3, none⟩ = some (.bool s1) ∧ W.cell? ⟨b1, o1 + i * 3 + 1, none⟩ = some (.slice X1 a1 d1) ∧ W.cell? ⟨b1, o1 + i * 3 + 2, none⟩ = some (.slice Y1 m1 e1))) := Lib.hid fun W hW => And.intro (tri (b3.up hW)) (⟨by rw [hW.cell (by exact hb1w)]; exact p10, by rw [hW.cell (by exact hb1w)]; exact p11, by rw [hW.cell (by exact hb1w)]; exact p12⟩)
          refine wp_region_noPanic ?_
          refine wp_region_till (S := (fun wx => (wx.cell? ⟨g8, 0, none⟩ = some (.bool s22) ∧ wx.cell? ⟨g8, 1, none⟩ = some (.slice A22 n22 c22) ∧ wx.cell? ⟨g8, 2, none⟩ = some (.slice B22 m22 d22)) ∧ (wx.cell? ⟨b1, o1 + i * 3, none⟩ = some (.bool s1) ∧ wx.cell? ⟨b1, o1 + i * 3 + 1, none⟩ = some (.slice X1 a1 d1) ∧ wx.cell? ⟨b1, o1 + i * 3 + 2, none⟩ = some (.slice Y1 m1 e1)))) 6 [(0, 0), (1, 0), (2, 0), (3, 0), (4, 0), (5, 1)] [6] (by kernel_rfl) (by as_aux_lemma => kernel_rfl) (by as_aux_lemma => kernel_rfl) (by as_aux_lemma => kernel_rfl) (fun _ _ _ _ _ h => h) (HE.out _ (Up.refl w3).drew) ?_
          intro O3 HO3
          refine wpT_take (i := 0) (v := ?_) (by as_aux_lemma => rw [HO3.out]; simp only [List.getElem?_toArray, List.getElem?_cons_zero]; rfl) (Or.inl ⟨(by rfl), ?_⟩) ?_
          rotate_left
          · as_aux_lemma => intro wx hSx; (try dsimp only at hSx); go_simp; try with_reducible rfl
          try simp only [Act.put, List.setIfInBounds_toArray, List.set_cons_zero, List.set_cons_succ]
          refine wpT_take (i := 1) (v := ?_) (by as_aux_lemma => rw [HO3.out]; simp only [List.getElem?_toArray, List.getElem?_cons_succ, List.getElem?_cons_zero]; rfl) (Or.inl ⟨(by rfl), ?_⟩) ?_
          rotate_left
          · as_aux_lemma => intro wx hSx; (try dsimp only at hSx); go_simp; try with_reducible rfl
          try simp only [Act.put, List.setIfInBounds_toArray, List.set_cons_zero, List.set_cons_succ]
          refine wpT_take (i := 2) (v := ?_) (by as_aux_lemma => rw [HO3.out]; simp only [List.getElem?_toArray, List.getElem?_cons_succ, List.getElem?_cons_zero]; rfl) (Or.inl ⟨(by rfl), ?_⟩) ?_
          rotate_left
          · as_aux_lemma => intro wx hSx; (try dsimp only at hSx); go_simp; try with_reducible rfl
          try simp only [Act.put, List.setIfInBounds_toArray, List.set_cons_zero, List.set_cons_succ]
          refine wpT_take (i := 3) (v := ?_) (by as_aux_lemma => rw [HO3.out]; simp only [List.getElem?_toArray, List.getElem?_cons_succ, List.getElem?_cons_zero]; rfl) (Or.inl ⟨(by rfl), ?_⟩) ?_
          rotate_left
          · as_aux_lemma => intro wx hSx; (try dsimp only at hSx); go_simp; try with_reducible rfl
          try simp only [Act.put, List.setIfInBounds_toArray, List.set_cons_zero, List.set_cons_succ]
          refine wpT_take (i := 4) (v := ?_) (by as_aux_lemma => rw [HO3.out]; simp only [List.getElem?_toArray, List.getElem?_cons_succ, List.getElem?_cons_zero]; rfl) (Or.inl ⟨(by rfl), ?_⟩) ?_
          rotate_left
          · as_aux_lemma => intro wx hSx; (try dsimp only at hSx); go_simp; try with_reducible rfl
          try simp only [Act.put, List.setIfInBounds_toArray, List.set_cons_zero, List.set_cons_succ]
          refine wpT_call (i := 5) (by as_aux_lemma => rw [HO3.out]; simp only [List.getElem?_toArray, List.getElem?_cons_succ, List.getElem?_cons_zero]; rfl) (by rfl) (fun K' hK => ?_)
          go_simp
          refine (HC1.out _ (Up.refl w3).drew).mono ?_
          rintro e w5 ⟨v5, rfl, hQ5, U5⟩
          obtain ⟨s5, A5, n5, c5, B5, m5, d5, rfl⟩ := hQ5.shape
          have HQ5 := Lib.hid hQ5
          have V5 : Up w3 w5 := Up.trans (Up.refl w3).drew U5
          have kk5 := HE.out _ V5
          clear hQ5
          have x8 := b3.up V5
          obtain ⟨k0, k1, k2⟩ := tri x8
          have f0 := x8.frozen 0
          have f1 := x8.frozen 1
          have f2 := x8.frozen 2
          go_wp2_with fail
          refine hK.out _ _ kk5 (fun _ => ?_)
          clear hK K'
          try simp only [Act.put, List.setIfInBounds_toArray, List.set_cons_zero, List.set_cons_succ]
          refine wpT_tail (i := 6) (by as_aux_lemma => rw [HO3.out]; simp only [List.getElem?_toArray, List.getElem?_cons_succ, List.getElem?_cons_zero]; rfl) (by rfl) (fun K' hK => ?_)
          go_simp
          go_wp2_with fail
          refine hK.out _ _ ?_
          clear hK K'
          try simp only [Act.put, List.setIfInBounds_toArray, List.set_cons_zero, List.set_cons_succ]
          refine wpT_end (NoPanic.normal ?_)
          clear HO3 O3
          have b5' := tri_set x8 (.bool s5) (.slice A5 n5 c5) (.slice B5 m5 d5)
          have q5' := QV.kp HQ5.out (Kp.tri (Kp.refl w5) x8 (s' := s5) (C := A5) (m := n5) (d := c5) (C' := B5) (m' := m5) (d' := d5))
          have W5' := up_tri (W3.trans V5) hge8 (.bool s5) (.slice A5 n5 c5) (.slice B5 m5 d5)
          obtain ⟨w5', hw5'⟩ : ∃ x, x = ((w5.setCell ⟨g8, 0, none⟩ (.bool s5)).setCell ⟨g8, 1, none⟩ (.slice A5 n5 c5)).setCell ⟨g8, 2, none⟩ (.slice B5 m5 d5) := ⟨_, rfl⟩
          rw [← hw5'] at b5' q5' W5' ⊢
          clear hw5' x8 k0 k1 k2 f0 f1 f2 HE
          obtain ⟨k0, k1, k2⟩ := tri b5'
          have U13 : Up w5' (w5'.alloc (Obj.cells #[.bool s5, .slice A5 n5 c5, .slice B5 m5 d5] 31)) := Below.alloc (Up.refl _) (Nat.le_refl _) _
          have HA13 := Lib.hid (HA.out.up (W5'.trans U13))
          have hq13 := q5'
          rw [HSUM.out] at hq13
          have HR13 := Lib.hid (RX.one (m := none) (Blk.new w5' 31 #[.bool s5, .slice A5 n5 c5, .slice B5 m5 d5]) (hq13.up U13))
          have hV13 := hU.trans (W5'.trans U13)
          have hsz := hV13.size
          clear hq13 U13
          go_wp2_with (first
            | (at_builtin; refine wpList_append_rats rfl _ _ rfl rfl HA13.out rfl rfl HR13.out (fun h => by cases h) HLT.out hsz ?_))
          intro v14 w14 hA14
          have hV14 := hA14.below hV13 HA13.out hsz
          have HA14 := hA14.own
          rw [← HT.out] at HA14
          have HA14 := Lib.hid HA14
          clear hA14 hsz hV13
          go_wp2_with fail
          go_roundw
          case rel => exact ⟨i + 1, by omega, by go_num, HA14, hV14⟩
          case measure => simp [intOf]; omega
      · by_cases q2 : i < L2
        · have hz1 : ps.getD i 0 = 0 := getD_len (by have := HL1.out; omega)
          have u1 : decide ((i : Int) < (L1 : Int)) = false := by simp; omega
          have u2 : decide (i < L1) = false := by simp; omega
          obtain ⟨b2, o2, s2, X2, a2, d2, Y2, m2, e2, rfl, hb2, hx2, p20, p21, p22⟩ := (HR2.out.up hU).at_ (k := i) (by have := HL2.out; omega)
          have v1 : decide ((i : Int) < (L2 : Int)) = true := by simp; omega
          have v2 : decide (i < L2) = true := by simp; omega
          have j2 : (i : Int) < L2 := by omega
          have HX2 := Lib.hid hx2
          clear hx2
          have HSUM := Lib.hid (show ((0 : Int) : Rat) + rs.getD i 0 = (padd ps rs).getD i 0 by rw [padd_getD]; have h00 : ((0 : Int) : Rat) = 0 := rfl; grind)
          have HT := Lib.hid (padd_take ps rs i (by have := HL1.out; have := HL2.out; omega))
          obtain ⟨z, hz⟩ : ∃ z, z = (padd ps rs).getD i 0 := ⟨_, rfl⟩
          rw [← hz] at HSUM HT
          have HLT := Lib.hid (show ((padd ps rs).take i).length + [z].length ≤ 1000000 by have := HLN.out; have := HL1.out; have := HL2.out; simp [HLN.out]; omega)
          clear hz hz1 
          have hsz0 := hU.size
          go_wp2_with fail
          refine (rFromInt_q 0 (by omega) (by omega)).mono ?_
          rintro e w2 ⟨v2', rfl, hQ2, U2⟩
          obtain ⟨s22, A22, n22, c22, B22, m22, d22, rfl⟩ := hQ2.shape
          have HQ2 := Lib.hid hQ2
          have hsz2 := U2.size
          clear hQ2
          go_wp2_with fail
          obtain ⟨w3, hw3⟩ : ∃ w3, w3 = w2.alloc (Obj.cells #[.bool s22, .slice A22 n22 c22, .slice B22 m22 d22] 31) := ⟨_, rfl⟩
          have U3 : Up w2 w3 := by rw [hw3]; exact (Below.refl _ _).alloc (Nat.le_refl _) _
          have b3 : Blk w3 w2.heap.size 31 #[.bool s22, .slice A22 n22 c22, .slice B22 m22 d22] := by rw [hw3]; exact Blk.new' _ _ _ rfl
          rw [← hw3]
          obtain ⟨g8, hg8⟩ : ∃ g, g = w2.heap.size := ⟨_, rfl⟩
          have hge8 : wr.heap.size ≤ g8 := by omega
          rw [← hg8] at b3 ⊢
          have W3 := U2.trans U3
          clear hw3 hg8
          have HC2 := Lib.hid (fun wx (u : Up w3 wx) => rAdd_q (QV.iv ((HQ2.out.up U3).up u) (B := 3) (qs_int 0 (by omega) (by omega))) (XV.iv ((HX2.out).up (W3.trans u)) (B := B) (Nat.le_refl _)) (by omega))
          have hb2w : b2 < w3.heap.size := Nat.lt_of_lt_of_le hb2 W3.size
          replace p20 := (W3.cell (p := ⟨b2, o2 + i * 3, none⟩) hb2).trans p20
          replace p21 := (W3.cell (p := ⟨b2, o2 + i * 3 + 1, none⟩) hb2).trans p21
          replace p22 := (W3.cell (p := ⟨b2, o2 + i * 3 + 2, none⟩) hb2).trans p22
          have HE : Hid (∀ W : World, Up w3 W → (W.cell? ⟨g8, 0, none⟩ = some (.bool s22) ∧ W.cell? ⟨g8, 1, none⟩ = some (.slice A22 n22 c22) ∧ W.cell? ⟨g8, 2, none⟩ = some (.slice B22 m22 d22)) ∧ (W.cell? ⟨b2, o2 + i * 3, none⟩ = some (.bool s2) ∧ W.cell? ⟨b2, o2 + i * 3 + 1, none⟩ = some (.slice X2 a2 d2) ∧ W.cell? ⟨b2, o2 + i * 3 + 2, none⟩ = some (.slice Y2 m2 e2))) := Lib.hid fun W hW => And.intro (tri (b3.up hW)) (⟨by rw [hW.cell (by exact hb2w)]; exact p20, by rw [hW.cell (by exact hb2w)]; exact p21, by rw [hW.cell (by exact hb2w)]; exact p22⟩)
          refine wp_region_noPanic ?_
          refine wp_region_till (S := (fun wx => (wx.cell? ⟨g8, 0, none⟩ = some (.bool s22) ∧ wx.cell? ⟨g8, 1, none⟩ = some (.slice A22 n22 c22) ∧ wx.cell? ⟨g8, 2, none⟩ = some (.slice B22 m22 d22)) ∧ (wx.cell? ⟨b2, o2 + i * 3, none⟩ = some (.bool s2) ∧ wx.cell? ⟨b2, o2 + i * 3 + 1, none⟩ = some (.slice X2 a2 d2) ∧ wx.cell? ⟨b2, o2 + i * 3 + 2, none⟩ = some (.slice Y2 m2 e2)))) 6 [(0, 0), (1, 0), (2, 0), (3, 0), (4, 0), (5, 1)] [6] (by kernel_rfl) (by as_aux_lemma => kernel_rfl) (by as_aux_lemma => kernel_rfl) (by as_aux_lemma => kernel_rfl) (fun _ _ _ _ _ h => h) (HE.out _ (Up.refl w3).drew) ?_
          intro O4 HO4
          refine wpT_take (i := 0) (v := ?_) (by as_aux_lemma => rw [HO4.out]; simp only [List.getElem?_toArray, List.getElem?_cons_zero]; rfl) (Or.inl ⟨(by rfl), ?_⟩) ?_
          rotate_left
          · as_aux_lemma => intro wx hSx; (try dsimp only at hSx); go_simp; try with_reducible rfl
          try simp only [Act.put, List.setIfInBounds_toArray, List.set_cons_zero, List.set_cons_succ]
          refine wpT_take (i := 1) (v := ?_) (by as_aux_lemma => rw [HO4.out]; simp only [List.getElem?_toArray, List.getElem?_cons_succ, List.getElem?_cons_zero]; rfl) (Or.inl ⟨(by rfl), ?_⟩) ?_
          rotate_left
          · as_aux_lemma => intro wx hSx; (try dsimp only at hSx); go_simp; try with_reducible rfl
          try simp only [Act.put, List.setIfInBounds_toArray, List.set_cons_zero, List.set_cons_succ]
          refine wpT_take (i := 2) (v := ?_) (by as_aux_lemma => rw [HO4.out]; simp only [List.getElem?_toArray, List.getElem?_cons_succ, List.getElem?_cons_zero]; rfl) (Or.inl ⟨(by rfl), ?_⟩) ?_
          rotate_left
          · as_aux_lemma => intro wx hSx; (try dsimp only at hSx); go_simp; try with_reducible rfl
          try simp only [Act.put, List.setIfInBounds_toArray, List.set_cons_zero, List.set_cons_succ]
          refine wpT_take (i := 3) (v := ?_) (by as_aux_lemma => rw [HO4.out]; simp only [List.getElem?_toArray, List.getElem?_cons_succ, List.getElem?_cons_zero]; rfl) (Or.inl ⟨(by rfl), ?_⟩) ?_
          rotate_left
          · as_aux_lemma => intro wx hSx; (try dsimp only at hSx); go_simp; try with_reducible rfl
          try simp only [Act.put, List.setIfInBounds_toArray, List.set_cons_zero, List.set_cons_succ]
          refine wpT_take (i := 4) (v := ?_) (by as_aux_lemma => rw [HO4.out]; simp only [List.getElem?_toArray, List.getElem?_cons_succ, List.getElem?_cons_zero]; rfl) (Or.inl ⟨(by rfl), ?_⟩) ?_
          rotate_left
          · as_aux_lemma => intro wx hSx; (try dsimp only at hSx); go_simp; try with_reducible rfl
          try simp only [Act.put, List.setIfInBounds_toArray, List.set_cons_zero, List.set_cons_succ]
          refine wpT_call (i := 5) (by as_aux_lemma => rw [HO4.out]; simp only [List.getElem?_toArray, List.getElem?_cons_succ, List.getElem?_cons_zero]; rfl) (by rfl) (fun K' hK => ?_)
          go_simp
          refine (HC2.out _ (Up.refl w3).drew).mono ?_
          rintro e w5 ⟨v5, rfl, hQ5, U5⟩
          obtain ⟨s5, A5, n5, c5, B5, m5, d5, rfl⟩ := hQ5.shape
          have HQ5 := Lib.hid hQ5
          have V5 : Up w3 w5 := Up.trans (Up.refl w3).drew U5
          have kk5 := HE.out _ V5
          clear hQ5
          have x8 := b3.up V5
          obtain ⟨k0, k1, k2⟩ := tri x8
          have f0 := x8.frozen 0
          have f1 := x8.frozen 1
          have f2 := x8.frozen 2
          go_wp2_with fail
          refine hK.out _ _ kk5 (fun _ => ?_)
          clear hK K'
          try simp only [Act.put, List.setIfInBounds_toArray, List.set_cons_zero, List.set_cons_succ]
          refine wpT_tail (i := 6) (by as_aux_lemma => rw [HO4.out]; simp only [List.getElem?_toArray, List.getElem?_cons_succ, List.getElem?_cons_zero]; rfl) (by rfl) (fun K' hK => ?_)
          go_simp
          go_wp2_with fail
          refine hK.out _ _ ?_
          clear hK K'
          try simp only [Act.put, List.setIfInBounds_toArray, List.set_cons_zero, List.set_cons_succ]
          refine wpT_end (NoPanic.normal ?_)
          clear HO4 O4
          have b5' := tri_set x8 (.bool s5) (.slice A5 n5 c5) (.slice B5 m5 d5)
          have q5' := QV.kp HQ5.out (Kp.tri (Kp.refl w5) x8 (s' := s5) (C := A5) (m := n5) (d := c5) (C' := B5) (m' := m5) (d' := d5))
          have W5' := up_tri (W3.trans V5) hge8 (.bool s5) (.slice A5 n5 c5) (.slice B5 m5 d5)
          obtain ⟨w5', hw5'⟩ : ∃ x, x = ((w5.setCell ⟨g8, 0, none⟩ (.bool s5)).setCell ⟨g8, 1, none⟩ (.slice A5 n5 c5)).setCell ⟨g8, 2, none⟩ (.slice B5 m5 d5) := ⟨_, rfl⟩
          rw [← hw5'] at b5' q5' W5' ⊢
          clear hw5' x8 k0 k1 k2 f0 f1 f2 HE
          obtain ⟨k0, k1, k2⟩ := tri b5'
          have U13 : Up w5' (w5'.alloc (Obj.cells #[.bool s5, .slice A5 n5 c5, .slice B5 m5 d5] 31)) := Below.alloc (Up.refl _) (Nat.le_refl _) _
          have HA13 := Lib.hid (HA.out.up (W5'.trans U13))
          have hq13 := q5'
          rw [HSUM.out] at hq13
          have HR13 := Lib.hid (RX.one (m := none) (Blk.new w5' 31 #[.bool s5, .slice A5 n5 c5, .slice B5 m5 d5]) (hq13.up U13))
          have hV13 := hU.trans (W5'.trans U13)
          have hsz := hV13.size
          clear hq13 U13
          go_wp2_with (first
            | (at_builtin; refine wpList_append_rats rfl _ _ rfl rfl HA13.out rfl rfl HR13.out (fun h => by cases h) HLT.out hsz ?_))
          intro v14 w14 hA14
          have hV14 := hA14.below hV13 HA13.out hsz
          have HA14 := hA14.own
          rw [← HT.out] at HA14
          have HA14 := Lib.hid HA14
          clear hA14 hsz hV13
          go_wp2_with fail
          go_roundw
          case rel => exact ⟨i + 1, by omega, by go_num, HA14, hV14⟩
          case measure => simp [intOf]; omega
        · have u1 : decide ((i : Int) < (L1 : Int)) = false := by simp; omega
          have u2 : decide (i < L1) = false := by simp; omega
          have v1 : decide ((i : Int) < (L2 : Int)) = false := by simp; omega
          have v2 : decide (i < L2) = false := by simp; omega
          have hA := HA.out
          rw [List.take_of_length_le (by rw [HLN.out, ← HL1.out, ← HL2.out]; omega)] at hA
          obtain ⟨A9, c9, rfl, _, _, hr9⟩ := hA.rx
          have HCN := Lib.hid (rCanon_q (B := 2 * (B + 1) + 1) (cap := c9) hr9 HM.out (by omega) (by rw [HLN.out, ← HL1.out, ← HL2.out]; omega))
          clear hA HA hr9
          go_wp2_with fail
          refine HCN.out.mono ?_
          rintro e w9 ⟨A10, c10, rfl, h1, h2, h3, h4⟩
          have H9 := Lib.hid (And.intro h1 (And.intro h2 h3))
          clear h1 h2 h3
          go_wp2_with fail
          go_ret2
          exact ⟨A10, c10, by rw [HP.out.1, HP.out.2]; rfl, by rw [HP.out.1]; exact H9.out.1, H9.out.2.1, by rw [HP.out.1]; exact H9.out.2.2, hU.trans h4⟩
  · have HP := Lib.hid (HNO hyes)
    by_cases h33 : 33 < ps.length
    · have t1 : decide (33 < ps.length) = true := by simp; omega
      have t1i : decide ((33 : Int) < (ps.length : Int)) = true := by simp; omega
      clear hyes h1 h2 hB1 hB2
      go_enter Try.func23, Try.ntmps23
      go_wp2_with fail
      go_ret2
      exact ⟨none, 0, by rw [HP.out.1, HP.out.2]; rfl, by rw [HP.out.1]; exact Nat.le_refl _, by omega, by rw [HP.out.1]; exact RX.nil_, Up.refl _⟩
    · have t0 : decide (33 < ps.length) = false := by simpa using h33
      have t0i : decide ((33 : Int) < (ps.length : Int)) = false := by simp; omega
      have t2 : decide (33 < rs.length) = true := by simp; omega
      have t2i : decide ((33 : Int) < (rs.length : Int)) = true := by simp; omega
      clear hyes h1 h2 hB1 hB2
      go_enter Try.func23, Try.ntmps23
      go_wp2_with fail
      go_ret2
      exact ⟨none, 0, by rw [HP.out.1, HP.out.2]; rfl, by rw [HP.out.1]; exact Nat.le_refl _, by omega, by rw [HP.out.1]; exact RX.nil_, Up.refl _⟩
end Go.Proofs.Ytkngegcfdabpoaa
