/-
  The closure of binomial.Mul.
-/
import Derived.Test.YtkngegcfdabpoaaLComb
import Derived.Test.YtkngegcfdabpoaaPD
import Derived.Test.YtkngegcfdabpoaaPF
namespace Go.Proofs.Ytkngegcfdabpoaa
open Go.RowKit

set_option maxRecDepth 100000 in
set_option maxHeartbeats 3200000 in
theorem mulClo_q {va vb : Value} {x y z : Rat} {B C : Nat} {gp : Nat} {w : World} {sp : Bool} {Ap Bp : Option Addr} {np cp mp dp : Nat} (ha : IV w va x B) (hb : IV w vb y B) (hbp : Blk w gp 31 #[.bool sp, .slice Ap np cp, .slice Bp mp dp]) (hp : IV w (.agg #[.bool sp, .slice Ap np cp, .slice Bp mp dp]) z C) (hB : B ≤ 100000000) (hC : C ≤ 100000000) :
    Calls Try.prog 50 #[va, vb, .pointer (some ⟨gp, 0, none⟩)] w (RetQ w (x + z * y)) := by
  have HX := Lib.hid ha
  have HM1 := Lib.hid (fun wx (u : Up w wx) => mul_q (hp.up u) (hb.up u) (by omega))
  have HQZ := Lib.hid (Nat.le_trans (qs_mul z y) (Nat.add_le_add hp.qs hb.qs))
  obtain ⟨sa, Aa, na, ca, Ba, ma, da, rfl⟩ := ha.shape
  obtain ⟨sb, Ab, nb, cb, Bb, mb, db, rfl⟩ := hb.shape
  have HBP := Lib.hid hbp
  clear ha hb hp hbp
  go_enter Try.func50, Try.ntmps50
  go_wp2_with fail
  obtain ⟨w3, hw3⟩ : ∃ w3, w3 = ((w.alloc (Obj.cells #[.bool sa, .slice Aa na ca, .slice Ba ma da] 31)).alloc (Obj.cells #[.bool sb, .slice Ab nb cb, .slice Bb mb db] 31)).alloc (Obj.cells #[.bool false, .slice none 0 0, .slice none 0 0] 31) := ⟨_, rfl⟩
  have U3 : Up w w3 := by rw [hw3]; exact (((Below.refl _ _).alloc (Nat.le_refl _) _).alloc (by simp) _).alloc (by simp; omega) _
  have ba : Blk w3 w.heap.size 31 #[.bool sa, .slice Aa na ca, .slice Ba ma da] := by rw [hw3]; exact ((Blk.new w _ _).alloc _).alloc _
  have bb : Blk w3 (w.heap.size + 1) 31 #[.bool sb, .slice Ab nb cb, .slice Bb mb db] := by rw [hw3]; exact (Blk.new' _ _ _ (by simp)).alloc _
  have bz : Blk w3 (w.heap.size + 1 + 1) 31 #[.bool false, .slice none 0 0, .slice none 0 0] := by rw [hw3]; exact Blk.new' _ _ _ (by simp)
  rw [← hw3]
  clear hw3
  obtain ⟨ga, hga⟩ : ∃ g, g = w.heap.size := ⟨_, rfl⟩
  obtain ⟨gb, hgb⟩ : ∃ g, g = w.heap.size + 1 := ⟨_, rfl⟩
  obtain ⟨gz, hgz⟩ : ∃ g, g = w.heap.size + 1 + 1 := ⟨_, rfl⟩
  have hgz2 : w.heap.size ≤ gz := by omega
  rw [← hgz] at bz ⊢
  rw [← hgb] at bb ⊢
  rw [← hga] at ba ⊢
  clear hgz hgb hga
  have bp := HBP.out.up U3
  have HM := Lib.hid (fun wx (u : Up w3 wx) => HM1.out wx (U3.trans u))
  have HA := Lib.hid (fun wx vx (u : Up w3 wx) (h : QV wx vx (z * y)) => add_q (HX.out.up (U3.trans u)) (h.iv HQZ.out) (by omega))
  have HE : Hid (∀ W : World, Up w3 W → (W.cell? ⟨ga, 0, none⟩ = some (.bool sa) ∧ W.cell? ⟨ga, 1, none⟩ = some (.slice Aa na ca) ∧ W.cell? ⟨ga, 2, none⟩ = some (.slice Ba ma da)) ∧ (W.cell? ⟨gb, 0, none⟩ = some (.bool sb) ∧ W.cell? ⟨gb, 1, none⟩ = some (.slice Ab nb cb) ∧ W.cell? ⟨gb, 2, none⟩ = some (.slice Bb mb db)) ∧ (W.cell? ⟨gp, 0, none⟩ = some (.bool sp) ∧ W.cell? ⟨gp, 1, none⟩ = some (.slice Ap np cp) ∧ W.cell? ⟨gp, 2, none⟩ = some (.slice Bp mp dp))) := Lib.hid fun W hW => And.intro (tri (ba.up hW)) (And.intro (tri (bb.up hW)) (tri (bp.up hW)))
  clear HBP
  go_wp2_with fail
  refine wp_region_noPanic ?_
  refine wp_region_till (S := (fun wx => (wx.cell? ⟨ga, 0, none⟩ = some (.bool sa) ∧ wx.cell? ⟨ga, 1, none⟩ = some (.slice Aa na ca) ∧ wx.cell? ⟨ga, 2, none⟩ = some (.slice Ba ma da)) ∧ (wx.cell? ⟨gb, 0, none⟩ = some (.bool sb) ∧ wx.cell? ⟨gb, 1, none⟩ = some (.slice Ab nb cb) ∧ wx.cell? ⟨gb, 2, none⟩ = some (.slice Bb mb db)) ∧ (wx.cell? ⟨gp, 0, none⟩ = some (.bool sp) ∧ wx.cell? ⟨gp, 1, none⟩ = some (.slice Ap np cp) ∧ wx.cell? ⟨gp, 2, none⟩ = some (.slice Bp mp dp)))) 5 [(0, 0), (1, 0), (2, 0), (3, 1), (4, 1)] [5] (by kernel_rfl) (by as_aux_lemma => kernel_rfl) (by as_aux_lemma => kernel_rfl) (by as_aux_lemma => kernel_rfl) (fun _ _ _ _ _ h => h) (HE.out _ (Up.refl w3).drew) ?_
  intro O5 HO5
  refine wpT_take (i := 0) (v := ?_) (by as_aux_lemma => rw [HO5.out]; simp only [List.getElem?_toArray, List.getElem?_cons_zero]; rfl) (Or.inl ⟨(by rfl), ?_⟩) ?_
  rotate_left
  · as_aux_lemma => intro wx hSx; (try dsimp only at hSx); go_simp; try with_reducible rfl
  try simp only [Act.put, List.setIfInBounds_toArray, List.set_cons_zero, List.set_cons_succ]
  refine wpT_take (i := 1) (v := ?_) (by as_aux_lemma => rw [HO5.out]; simp only [List.getElem?_toArray, List.getElem?_cons_succ, List.getElem?_cons_zero]; rfl) (Or.inl ⟨(by rfl), ?_⟩) ?_
  rotate_left
  · as_aux_lemma => intro wx hSx; (try dsimp only at hSx); go_simp; try with_reducible rfl
  try simp only [Act.put, List.setIfInBounds_toArray, List.set_cons_zero, List.set_cons_succ]
  refine wpT_take (i := 2) (v := ?_) (by as_aux_lemma => rw [HO5.out]; simp only [List.getElem?_toArray, List.getElem?_cons_succ, List.getElem?_cons_zero]; rfl) (Or.inl ⟨(by rfl), ?_⟩) ?_
  rotate_left
  · as_aux_lemma => intro wx hSx; (try dsimp only at hSx); go_simp; try with_reducible rfl
  try simp only [Act.put, List.setIfInBounds_toArray, List.set_cons_zero, List.set_cons_succ]
  refine wpT_call (i := 3) (by as_aux_lemma => rw [HO5.out]; simp only [List.getElem?_toArray, List.getElem?_cons_succ, List.getElem?_cons_zero]; rfl) (by rfl) (fun K' hK => ?_)
  go_simp
  refine (HM.out _ (Up.refl w3).drew).mono ?_
  rintro e w6 ⟨v6, rfl, hQ6, U6⟩
  obtain ⟨s6, A6, n6, c6, B6, m6, d6, rfl⟩ := hQ6.shape
  have HQ6 := Lib.hid hQ6
  have V6 : Up w3 w6 := Up.trans (Up.refl w3).drew U6
  have kk6 := HE.out _ V6
  clear hQ6
  go_wp2_with fail
  refine hK.out _ _ kk6 (fun _ => ?_)
  clear hK K'
  try simp only [Act.put, List.setIfInBounds_toArray, List.set_cons_zero, List.set_cons_succ]
  refine wpT_call (i := 4) (by as_aux_lemma => rw [HO5.out]; simp only [List.getElem?_toArray, List.getElem?_cons_succ, List.getElem?_cons_zero]; rfl) (by rfl) (fun K' hK => ?_)
  go_simp
  refine (HA.out _ _ V6 HQ6.out).mono ?_
  rintro e w7 ⟨v7, rfl, hQ7, U7⟩
  obtain ⟨s7, A7, n7, c7, B7, m7, d7, rfl⟩ := hQ7.shape
  have HQ7 := Lib.hid hQ7
  have V7 : Up w3 w7 := Up.trans V6 U7
  have kk7 := HE.out _ V7
  clear hQ7
  have x8 := bz.up V7
  obtain ⟨k0, k1, k2⟩ := tri x8
  have f0 := x8.frozen 0
  have f1 := x8.frozen 1
  have f2 := x8.frozen 2
  clear x8
  go_wp2_with fail
  refine hK.out _ _ kk7 (fun _ => ?_)
  clear hK K'
  try simp only [Act.put, List.setIfInBounds_toArray, List.set_cons_zero, List.set_cons_succ]
  refine wpT_tail (i := 5) (by as_aux_lemma => rw [HO5.out]; simp only [List.getElem?_toArray, List.getElem?_cons_succ, List.getElem?_cons_zero]; rfl) (by rfl) (fun K' hK => ?_)
  go_simp
  go_wp2_with fail
  refine hK.out _ _ ?_
  clear hK K'
  try simp only [Act.put, List.setIfInBounds_toArray, List.set_cons_zero, List.set_cons_succ]
  refine wpT_end (NoPanic.normal ?_)
  clear HO5 O5
  have x9 := bz.up V7
  go_wp2_with fail
  obtain ⟨k0, k1, k2⟩ := tri (tri_set x9 (.bool s7) (.slice A7 n7 c7) (.slice B7 m7 d7))
  refine bodyPost_ret (v := .agg #[.bool s7, .slice A7 n7 c7, .slice B7 m7 d7]) ?_ rfl (ret_q x9 HQ7.out (U3.trans V7) hgz2)
  simp [results, Try.results50, go_sem, k0, k1, k2]
end Go.Proofs.Ytkngegcfdabpoaa
