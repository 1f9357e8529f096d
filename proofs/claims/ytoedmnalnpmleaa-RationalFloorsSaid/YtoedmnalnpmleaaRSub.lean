/-
  Rational numbers as values: Sub.
-/
import Derived.Test.YtoedmnalnpmleaaRAdd
namespace Go.Proofs.Ytoedmnalnpmleaa
open Go.RowKit

set_option maxRecDepth 100000 in
set_option maxHeartbeats 6400000 in
theorem sub_q {v v' : Value} {q r : Rat} {B C : Nat} {w : World} (hf : IV w v q B) (hg : IV w v' r C) (hB : B + C ≤ 17179869180) :
    Calls Try.prog 15 #[v, v'] w (RetQ w (q - r)) := by
  rw [Rat.sub_eq_add_neg]
  have H1 := Lib.hid (fun wx (u : Up w wx) => load_q (hf.up u) (by omega))
  have H2 := Lib.hid (fun wx (u : Up w wx) => load_q (hg.up u) (by omega))
  obtain ⟨s, A, n, c, A', n', c', rfl⟩ := hf.shape
  obtain ⟨t, E, m, d, E', m', d', rfl⟩ := hg.shape
  clear hf hg
  go_enter Try.func15, Try.ntmps15
  go_wp2_with fail
  obtain ⟨w1, hw1⟩ : ∃ w1, w1 = ((w.alloc (Obj.cells #[.bool s, .slice A n c, .slice A' n' c'] 24)).alloc (Obj.cells #[.bool t, .slice E m d, .slice E' m' d'] 24)).alloc (Obj.cells #[.bool false, .slice none 0 0, .slice none 0 0] 24) := ⟨_, rfl⟩
  have U1 : Up w w1 := by rw [hw1]; exact (((Below.refl _ _).alloc (Nat.le_refl _) _).alloc (by simp) _).alloc (by simp; omega) _
  have a1 : Blk w1 w.heap.size 24 #[.bool s, .slice A n c, .slice A' n' c'] := by rw [hw1]; exact ((Blk.new w _ _).alloc _).alloc _
  have b1 : Blk w1 (w.heap.size + 1) 24 #[.bool t, .slice E m d, .slice E' m' d'] := by rw [hw1]; exact (Blk.new' _ _ _ (by simp)).alloc _
  have r1 : Blk w1 (w.heap.size + 2) 24 #[.bool false, .slice none 0 0, .slice none 0 0] := by rw [hw1]; exact Blk.new' _ _ _ (by simp)
  rw [← hw1]
  clear hw1 b1
  refine (H2.out _ U1).mono ?_
  rintro e w2 ⟨v2, rfl, hG, hU2⟩
  obtain ⟨t2, A2, n2, c2, A2', n2', c2', rfl⟩ := hG.shape
  have U2 := U1.trans hU2
  have a2 := a1.up hU2
  have r2 := r1.up hU2
  have HG := Lib.hid hG.flip
  have z2 := r2.lt
  clear hG hU2 a1 r1 U1
  go_wp2_with fail
  obtain ⟨w3, hw3⟩ : ∃ w3, w3 = w2.alloc (Obj.cells #[.bool (!t2), .slice A2 n2 c2, .slice A2' n2' c2'] 41) := ⟨_, rfl⟩
  have u3 : Up w2 w3 := by rw [hw3]; exact (Below.refl _ _).alloc (Nat.le_refl _) _
  have b3 : Blk w3 w2.heap.size 41 #[.bool (!t2), .slice A2 n2 c2, .slice A2' n2' c2'] := by rw [hw3]; exact Blk.new _ _ _
  have HG3 := Lib.hid (HG.out.up u3)
  have U3 := U2.trans u3
  have a3 := a2.up u3
  have r3 := r2.up u3
  rw [← hw3]
  clear hw3 U2 a2 r2 u3
  obtain ⟨g, hg⟩ : ∃ g, g = w2.heap.size := ⟨_, rfl⟩
  rw [← hg] at b3 z2 ⊢
  clear hg HG
  have s0 := And.intro (tri a3) (tri b3)
  go_region_held3 (fun wx => (wx.cell? ⟨w.heap.size, 0, none⟩ = some (.bool s) ∧ wx.cell? ⟨w.heap.size, 1, none⟩ = some (.slice A n c) ∧ wx.cell? ⟨w.heap.size, 2, none⟩ = some (.slice A' n' c')) ∧
      (wx.cell? ⟨g, 0, none⟩ = some (.bool (!t2)) ∧ wx.cell? ⟨g, 1, none⟩ = some (.slice A2 n2 c2) ∧ wx.cell? ⟨g, 2, none⟩ = some (.slice A2' n2' c2')))
    (first | exact s0 | exact s3 | exact s4 | exact s5 | exact ⟨tri (((a5.far (by simp <;> omega) _).far (by simp <;> omega) _).far (by simp <;> omega) _), tri (((b5.far (by simp <;> omega) _).far (by simp <;> omega) _).far (by simp <;> omega) _)⟩)
    (first
      | (go_at_call 23; refine (H1.out _ (by exact U3.drew)).mono ?_; rintro e w4 ⟨v3, rfl, hF, hU3⟩; obtain ⟨s3', A3, n3, c3, A3', n3', c3', rfl⟩ := hF.shape; have HF := Lib.hid hF; clear hF; have u34 : Up w3 w4 := Up.trans (Up.refl w3).drew hU3; have HG4 := Lib.hid (HG3.out.up u34); have U4 := Up.trans U3 u34; have a4 := Blk.up a3 u34; have b4 := Blk.up b3 u34; have r4 := Blk.up r3 u34; have s3 := And.intro (tri a4) (tri b4))
      | (go_at_call 27; refine (plus_q HF.out HG4.out (by omega)).mono ?_; rintro e w5 ⟨v4, rfl, hP, hU4⟩; obtain ⟨s4', A4, n4, c4, A4', n4', c4', rfl⟩ := hP.shape; have HP := Lib.hid hP; clear hP; have U5 := Up.trans U4 hU4; have a5' := Blk.up a4 hU4; have b5' := Blk.up b4 hU4; have r5' := Blk.up r4 hU4; have s4 := And.intro (tri a5') (tri b5'))
      | (go_at_call 22; refine (store_q HP.out (by omega)).mono ?_; rintro e w6 ⟨v5, rfl, hQ, hU5⟩; obtain ⟨s5', A5, n5, c5, A5', n5', c5', rfl⟩ := hQ.shape; have HQ := Lib.hid hQ; clear hQ; have U6 := Up.trans U5 hU5; have a5 := Blk.up a5' hU5; have b5 := Blk.up b5' hU5; have r5 := Blk.up r5' hU5; have s5 := And.intro (tri a5) (tri b5); obtain ⟨g0, g1, g2⟩ := tri r5; have i0 := r5.frozen 0; have i1 := r5.frozen 1; have i2 := r5.frozen 2; have z5 := r5.lt))
  go_wp2_with fail
  obtain ⟨c0, c1, c2'⟩ := tri (tri_set r5 (.bool s5') (.slice A5 n5 c5) (.slice A5' n5' c5'))
  refine bodyPost_ret (v := .agg #[.bool s5', .slice A5 n5 c5, .slice A5' n5' c5']) ?_ rfl (ret_q r5 HQ.out U6 (by omega))
  simp [results, Try.results15, go_sem, c0, c1, c2']
end Go.Proofs.Ytoedmnalnpmleaa
