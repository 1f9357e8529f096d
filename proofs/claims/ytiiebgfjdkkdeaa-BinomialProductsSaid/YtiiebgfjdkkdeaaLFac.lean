/-
  The document's factorial.
-/
import Derived.Test.YtiiebgfjdkkdeaaLSize
import Derived.Test.YtiiebgfjdkkdeaaBChoose
import Derived.Test.YtiiebgfjdkkdeaaPF
import Derived.Test.YtiiebgfjdkkdeaaPG
namespace Go.Proofs.Ytiiebgfjdkkdeaa
open Go.RowKit

set_option maxRecDepth 100000 in
set_option maxHeartbeats 3200000 in
theorem factorial_q (n : Nat) (hn : n ≤ 100) {w : World} : Calls Try.prog 39 #[.int .i64 (n : Int)] w (RetQ w (fac n : Rat)) := by
  go_enter Try.func39, Try.ntmps39
  go_wp2_with fail
  obtain ⟨w1, hw1⟩ : ∃ w1, w1 = w.alloc (Obj.cells #[.bool false, .slice none 0 0, .slice none 0 0] 24) := ⟨_, rfl⟩
  have Uw1 : Up w w1 := by rw [hw1]; exact (Below.refl _ _).alloc (Nat.le_refl _) _
  have rw1 : Blk w1 w.heap.size 24 #[.bool false, .slice none 0 0, .slice none 0 0] := by rw [hw1]; exact Blk.new' _ _ _ rfl
  rw [← hw1]
  clear hw1
  refine (rFromInt_q 1 (by omega) (by omega)).mono ?_
  rintro e w2 ⟨v2, rfl, hQ2, U2⟩
  obtain ⟨s2, A2, n2, c2, B2, m2, d2, rfl⟩ := hQ2.shape
  have r2 := rw1.up U2
  have V2 := Uw1.trans U2
  have HQ2 := Lib.hid hQ2
  clear hQ2 rw1 Uw1 U2
  go_wp2_with fail
  obtain ⟨w3, hw3⟩ : ∃ w3, w3 = w2.alloc (Obj.cells #[.bool s2, .slice A2 n2 c2, .slice B2 m2 d2] 24) := ⟨_, rfl⟩
  have U3 : Up w2 w3 := by rw [hw3]; exact (Below.refl _ _).alloc (Nat.le_refl _) _
  have x3 : Blk w3 w2.heap.size 24 #[.bool s2, .slice A2 n2 c2, .slice B2 m2 d2] := by rw [hw3]; exact Blk.new' _ _ _ rfl
  rw [← hw3]
  clear hw3
  obtain ⟨gf, hgf⟩ : ∃ g, g = w2.heap.size := ⟨_, rfl⟩
  have hlt : w.heap.size < gf := by have := r2.lt; omega
  rw [← hgf] at x3 ⊢
  have HB3 := Lib.hid (show BoxQ w3 gf ((fac 1 : Nat)) from ⟨_, _, _, _, _, _, _, x3, by first | exact HQ2.out.up U3 | (have := HQ2.out.up U3; simpa using this)⟩)
  have HZ3 := Lib.hid (r2.up U3)
  have V3 := V2.trans U3
  clear x3 hgf r2 U3 V2 HQ2
  go_loopw [4] (fun iv wr => ∃ j : Nat, 1 ≤ j ∧ (j ≤ n ∨ j = 1) ∧ iv = .int .i64 ((j : Int) + 1) ∧ Hid (BoxQ wr gf (fac j : Nat) ∧ Blk wr w.heap.size 24 #[.bool false, .slice none 0 0, .slice none 0 0]) ∧ Up w wr) (fun iv _ => n + 1 - (intOf iv).toNat)
  case atStart => exact ⟨1, by omega, by omega, rfl, Lib.hid ⟨HB3.out, HZ3.out⟩, V3⟩
  case round =>
    obtain ⟨k, hk1, hk2, rfl, HB, hU⟩ := hrel
    have hus := hU.size
    obtain ⟨bx0, bz⟩ := HB.out
    obtain ⟨sb, Ab, nb, cb, Bb, mb, db, bx, hqb⟩ := bx0
    clear HB3 HZ3 V3
    by_cases hlt : k + 1 ≤ n
    · have t1 : decide ((k : Int) + 1 ≤ (n : Int)) = true := by simp; omega
      have HF := Lib.hid (fun (wx : World) => rFromInt_q ((k : Int) + 1) (by omega) (by omega) (w := wx))
      have HM := Lib.hid (fun wx vx (u : Up wr wx) (h : QV wx vx (((k : Int) + 1 : Int) : Rat)) => rMul_q ((hqb.up u).iv (qs_fac k (by omega))) (h.iv (qs_int _ (by omega) (by omega))) (by omega))
      rw [show ((fac k : Nat) : Rat) * (((k : Int) + 1 : Int) : Rat) = ((fac (k + 1) : Nat) : Rat) from by rw [fac_succ, Rat.intCast_add, Rat.intCast_natCast]; rfl] at HM
      have lf := bx.lt
      have HE : Hid (∀ W : World, Up wr W → (W.cell? ⟨gf, 0, none⟩ = some (.bool sb) ∧ W.cell? ⟨gf, 1, none⟩ = some (.slice Ab nb cb) ∧ W.cell? ⟨gf, 2, none⟩ = some (.slice Bb mb db))) := Lib.hid fun W hW => tri (bx.up hW)
      clear hqb
      obtain ⟨x0, x1, x2⟩ := tri bx
      have i1 : (0 : Int) ≤ k := by omega
      have i2 : (k : Int) ≤ 100 := by omega
      go_wp2_with fail
      refine wp_region_noPanic ?_
      refine wp_region_till (S := (fun wx => (wx.cell? ⟨gf, 0, none⟩ = some (.bool sb) ∧ wx.cell? ⟨gf, 1, none⟩ = some (.slice Ab nb cb) ∧ wx.cell? ⟨gf, 2, none⟩ = some (.slice Bb mb db)))) 4 [(0, 0), (1, 0), (2, 1), (3, 1)] [4] (by kernel_rfl) (by as_aux_lemma => kernel_rfl) (by as_aux_lemma => kernel_rfl) (by as_aux_lemma => kernel_rfl) (fun _ _ _ _ _ h => h) (HE.out _ (Up.refl wr).drew) ?_
      intro O1 HO1
      refine wpT_take (i := 0) (v := ?_) (by as_aux_lemma => rw [HO1.out]; simp only [List.getElem?_toArray, List.getElem?_cons_zero]; rfl) (Or.inl ⟨(by rfl), ?_⟩) ?_
      rotate_left
      · as_aux_lemma => intro wx hSx; (try dsimp only at hSx); go_simp; try with_reducible rfl
      try simp only [Act.put, List.setIfInBounds_toArray, List.set_cons_zero, List.set_cons_succ]
      refine wpT_take (i := 1) (v := ?_) (by as_aux_lemma => rw [HO1.out]; simp only [List.getElem?_toArray, List.getElem?_cons_succ, List.getElem?_cons_zero]; rfl) (Or.inl ⟨(by rfl), ?_⟩) ?_
      rotate_left
      · as_aux_lemma => intro wx hSx; (try dsimp only at hSx); go_simp; try with_reducible rfl
      try simp only [Act.put, List.setIfInBounds_toArray, List.set_cons_zero, List.set_cons_succ]
      refine wpT_call (i := 2) (by as_aux_lemma => rw [HO1.out]; simp only [List.getElem?_toArray, List.getElem?_cons_succ, List.getElem?_cons_zero]; rfl) (by rfl) (fun K' hK => ?_)
      go_simp
      refine (HF.out _).mono ?_
      rintro e w6 ⟨v6, rfl, hQ6, U6⟩
      obtain ⟨s6, A6, n6, c6, B6, m6, d6, rfl⟩ := hQ6.shape
      have HQ6 := Lib.hid hQ6
      have V6 : Up wr w6 := Up.trans (Up.refl wr).drew U6
      have kk6 := HE.out _ V6
      clear hQ6
      go_wp2_with fail
      refine hK.out _ _ kk6 (fun _ => ?_)
      clear hK K'
      try simp only [Act.put, List.setIfInBounds_toArray, List.set_cons_zero, List.set_cons_succ]
      refine wpT_call (i := 3) (by as_aux_lemma => rw [HO1.out]; simp only [List.getElem?_toArray, List.getElem?_cons_succ, List.getElem?_cons_zero]; rfl) (by rfl) (fun K' hK => ?_)
      go_simp
      refine (HM.out _ _ V6 HQ6.out).mono ?_
      rintro e w7 ⟨v7, rfl, hQ7, U7⟩
      obtain ⟨s7, A7, n7, c7, B7, m7, d7, rfl⟩ := hQ7.shape
      have HQ7 := Lib.hid hQ7
      have V7 : Up wr w7 := Up.trans V6 U7
      have kk7 := HE.out _ V7
      clear hQ7
      have x8 := bx.up V7
      obtain ⟨k0, k1, k2⟩ := tri x8
      have f0 := x8.frozen 0
      have f1 := x8.frozen 1
      have f2 := x8.frozen 2
      clear x8
      go_wp2_with fail
      refine hK.out _ _ kk7 (fun _ => ?_)
      clear hK K'
      try simp only [Act.put, List.setIfInBounds_toArray, List.set_cons_zero, List.set_cons_succ]
      refine wpT_tail (i := 4) (by as_aux_lemma => rw [HO1.out]; simp only [List.getElem?_toArray, List.getElem?_cons_succ, List.getElem?_cons_zero]; rfl) (by rfl) (fun K' hK => ?_)
      go_simp
      go_wp2_with fail
      refine hK.out _ _ ?_
      clear hK K'
      try simp only [Act.put, List.setIfInBounds_toArray, List.set_cons_zero, List.set_cons_succ]
      refine wpT_end (NoPanic.normal ?_)
      clear HO1 O1
      have x9 := bx.up V7
      have z9 := bz.up V7
      have HB9 := Lib.hid (BoxQ.of (t := 0) x9 HQ7.out)
      have hz9 := ((z9.far (p := ⟨gf, 0, none⟩) (by simp; omega) (.bool s7)).far (p := ⟨gf, 1, none⟩) (by simp; omega) (.slice A7 n7 c7)).far (p := ⟨gf, 2, none⟩) (by simp; omega) (.slice B7 m7 d7)
      have U9 := up_tri (g := gf) (hU.trans V7) (by omega) (.bool s7) (.slice A7 n7 c7) (.slice B7 m7 d7)
      go_wp2_with fail
      go_roundw
      case rel => exact ⟨k + 1, by omega, by omega, by go_num, Lib.hid ⟨HB9.out, hz9⟩, U9⟩
      case measure => simp [intOf]; omega
    · have t1 : decide ((k : Int) + 1 ≤ (n : Int)) = false := by simp; omega
      have hkn : fac k = fac n := by
        rcases hk2 with h | h
        · rw [show k = n by omega]
        · have : n = 0 ∨ n = 1 := by omega
          rcases this with rfl | rfl
          · rw [h]; rfl
          · rw [h]
      rw [hkn] at hqb
      clear hkn
      obtain ⟨x0, x1, x2⟩ := tri bx
      obtain ⟨o0, o1, o2⟩ := tri bz
      have f0 := bz.frozen 0
      have f1 := bz.frozen 1
      have f2 := bz.frozen 2
      have HQ5 := Lib.hid hqb
      clear hqb
      go_wp2_with fail
      obtain ⟨k0, k1, k2⟩ := tri (tri_set bz (.bool sb) (.slice Ab nb cb) (.slice Bb mb db))
      refine bodyPost_ret (v := .agg #[.bool sb, .slice Ab nb cb, .slice Bb mb db]) ?_ rfl (ret_q bz HQ5.out hU (Nat.le_refl _))
      simp [results, Try.results39, go_sem, k0, k1, k2]
end Go.Proofs.Ytiiebgfjdkkdeaa
