/-
  Rational numbers as values: Add.
-/
import Derived.Test.YtoedmnalnpmleaaROps
namespace Go.Proofs.Ytoedmnalnpmleaa
open Go.RowKit

set_option maxRecDepth 100000 in
set_option maxHeartbeats 6400000 in
theorem add_q {v v' : Value} {q r : Rat} {B C : Nat} {w : World} (hf : IV w v q B) (hg : IV w v' r C) (hB : B + C ≤ 17179869180) :
    Calls Try.prog 14 #[v, v'] w (RetQ w (q + r)) := by
  have H1 := Lib.hid (fun wx (u : Up w wx) => load_q (hf.up u) (by omega))
  have H2 := Lib.hid (fun wx (u : Up w wx) => load_q (hg.up u) (by omega))
  obtain ⟨s, A, n, c, A', n', c', rfl⟩ := hf.shape
  obtain ⟨t, E, m, d, E', m', d', rfl⟩ := hg.shape
  clear hf hg
  go_enter Try.func14, Try.ntmps14
  go_wp2_with fail
  obtain ⟨w1, hw1⟩ : ∃ w1, w1 = ((w.alloc (Obj.cells #[.bool s, .slice A n c, .slice A' n' c'] 24)).alloc (Obj.cells #[.bool t, .slice E m d, .slice E' m' d'] 24)).alloc (Obj.cells #[.bool false, .slice none 0 0, .slice none 0 0] 24) := ⟨_, rfl⟩
  have U1 : Up w w1 := by rw [hw1]; exact (((Below.refl _ _).alloc (Nat.le_refl _) _).alloc (by simp) _).alloc (by simp; omega) _
  have a1 : Blk w1 w.heap.size 24 #[.bool s, .slice A n c, .slice A' n' c'] := by rw [hw1]; exact ((Blk.new w _ _).alloc _).alloc _
  have b1 : Blk w1 (w.heap.size + 1) 24 #[.bool t, .slice E m d, .slice E' m' d'] := by rw [hw1]; exact (Blk.new' _ _ _ (by simp)).alloc _
  have r1 : Blk w1 (w.heap.size + 2) 24 #[.bool false, .slice none 0 0, .slice none 0 0] := by rw [hw1]; exact Blk.new' _ _ _ (by simp)
  rw [← hw1]
  clear hw1
  have s0 := And.intro (tri a1) (tri b1)
  go_region_held3 (fun wx => (wx.cell? ⟨w.heap.size, 0, none⟩ = some (.bool s) ∧ wx.cell? ⟨w.heap.size, 1, none⟩ = some (.slice A n c) ∧ wx.cell? ⟨w.heap.size, 2, none⟩ = some (.slice A' n' c')) ∧
      (wx.cell? ⟨w.heap.size + 1, 0, none⟩ = some (.bool t) ∧ wx.cell? ⟨w.heap.size + 1, 1, none⟩ = some (.slice E m d) ∧ wx.cell? ⟨w.heap.size + 1, 2, none⟩ = some (.slice E' m' d')))
    (first | exact s0 | exact s2 | exact s3 | exact s4 | exact s5 | exact ⟨tri (((a5.far (by simp <;> omega) _).far (by simp <;> omega) _).far (by simp <;> omega) _), tri (((b5.far (by simp <;> omega) _).far (by simp <;> omega) _).far (by simp <;> omega) _)⟩)
    (first
      | (go_at_call_of 23 (Value.agg #[.bool s, .slice A n c, .slice A' n' c']); refine (H1.out _ (by exact U1.drew)).mono ?_; rintro e w2 ⟨v2, rfl, hF, hU2⟩; obtain ⟨s2', A2, n2, c2, A2', n2', c2', rfl⟩ := hF.shape; have HF := Lib.hid hF; clear hF; have U2 := Up.trans U1.drew hU2; have a2 := Blk.up (w := w1.drew) a1 hU2; have b2 := Blk.up (w := w1.drew) b1 hU2; have r2 := Blk.up (w := w1.drew) r1 hU2; have s2 := And.intro (tri a2) (tri b2))
      | (go_at_call_of 23 (Value.agg #[.bool t, .slice E m d, .slice E' m' d']); refine (H2.out _ (by exact U2)).mono ?_; rintro e w3 ⟨v3, rfl, hG, hU3⟩; obtain ⟨s3', A3, n3, c3, A3', n3', c3', rfl⟩ := hG.shape; have HG := Lib.hid hG; clear hG; have HF3 := Lib.hid (HF.out.up hU3); have U3 := Up.trans U2 hU3; have a3 := Blk.up a2 hU3; have b3 := Blk.up b2 hU3; have r3 := Blk.up r2 hU3; have s3 := And.intro (tri a3) (tri b3))
      | (go_at_call 27; refine (plus_q HF3.out HG.out (by omega)).mono ?_; rintro e w4 ⟨v4, rfl, hP, hU4⟩; obtain ⟨s4', A4, n4, c4, A4', n4', c4', rfl⟩ := hP.shape; have HP := Lib.hid hP; clear hP; have U4 := Up.trans U3 hU4; have a4 := Blk.up a3 hU4; have b4 := Blk.up b3 hU4; have r4 := Blk.up r3 hU4; have s4 := And.intro (tri a4) (tri b4))
      | (go_at_call 22; refine (store_q HP.out (by omega)).mono ?_; rintro e w5 ⟨v5, rfl, hQ, hU5⟩; obtain ⟨s5', A5, n5, c5, A5', n5', c5', rfl⟩ := hQ.shape; have HQ := Lib.hid hQ; clear hQ; have U5 := Up.trans U4 hU5; have a5 := Blk.up a4 hU5; have b5 := Blk.up b4 hU5; have r5 := Blk.up r4 hU5; have s5 := And.intro (tri a5) (tri b5); obtain ⟨g0, g1, g2⟩ := tri r5; have i0 := r5.frozen 0; have i1 := r5.frozen 1; have i2 := r5.frozen 2; have z5 := r5.lt))
  go_wp2_with fail
  obtain ⟨c0, c1, c2'⟩ := tri (tri_set r5 (.bool s5') (.slice A5 n5 c5) (.slice A5' n5' c5'))
  refine bodyPost_ret (v := .agg #[.bool s5', .slice A5 n5 c5, .slice A5' n5' c5']) ?_ rfl (ret_q r5 HQ.out U5 (by omega))
  simp [results, Try.results14, go_sem, c0, c1, c2']
end Go.Proofs.Ytoedmnalnpmleaa
