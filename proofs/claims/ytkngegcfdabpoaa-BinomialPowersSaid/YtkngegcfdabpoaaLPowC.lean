/-
  The closures of binomial.Powers.
-/
import Derived.Test.YtkngegcfdabpoaaLComb
import Derived.Test.YtkngegcfdabpoaaPD
import Derived.Test.YtkngegcfdabpoaaPC
import Derived.Test.YtkngegcfdabpoaaPF
namespace Go.Proofs.Ytkngegcfdabpoaa
open Go.RowKit

theorem int_cell {w : World} {g : Nat} {t : TypeId} {z : Int} (h : Blk w g t #[.int .i64 z]) : w.cell? ⟨g, 0, none⟩ = some (.int .i64 z) := by
  have := h.cell 0
  simpa using this

set_option maxRecDepth 100000 in
set_option maxHeartbeats 3200000 in
theorem pw1_q {va vb : Value} {x : Rat} {B : Nat} {gk k : Nat} {w : World} (ha : IV w va x B) (hb : Shp vb) (hk : Blk w gk 3 #[.int .i64 (k : Int)]) (hk2 : k ≤ 100) (hB : B ≤ 100000000) :
    Calls Try.prog 42 #[va, vb, .pointer (some ⟨gk, 0, none⟩)] w (RetQ w (x * ((-(k : Int) : Int) : Rat))) := by
  have HX := Lib.hid ha
  have HF := Lib.hid (fun (wx : World) => fromInt_q (w := wx) (-(k : Int)) (by omega) (by omega))
  have HK := Lib.hid hk
  obtain ⟨sa, Aa, na, ca, Ba, ma, da, rfl⟩ := ha.shape
  obtain ⟨sb, Ab, nb, cb, Bb, mb, db, rfl⟩ := hb
  have e1 : wrap64 (-(k : Int)) = -(k : Int) := by unfold wrap64; omega
  have e2 : IntKind.i64.wrap (-(k : Int)) = -(k : Int) := IntWalk.i64_in _ (by omega)
  clear ha hk
  go_enter Try.func42, Try.ntmps42
  go_wp2_with fail
  obtain ⟨w3, hw3⟩ : ∃ w3, w3 = ((w.alloc (Obj.cells #[.bool sa, .slice Aa na ca, .slice Ba ma da] 31)).alloc (Obj.cells #[.bool sb, .slice Ab nb cb, .slice Bb mb db] 31)).alloc (Obj.cells #[.bool false, .slice none 0 0, .slice none 0 0] 31) := ⟨_, rfl⟩
  have U3 : Up w w3 := by rw [hw3]; exact (((Below.refl _ _).alloc (Nat.le_refl _) _).alloc (by simp) _).alloc (by simp; omega) _
  have ba : Blk w3 w.heap.size 31 #[.bool sa, .slice Aa na ca, .slice Ba ma da] := by rw [hw3]; exact ((Blk.new w _ _).alloc _).alloc _
  have bb : Blk w3 (w.heap.size + 1) 31 #[.bool sb, .slice Ab nb cb, .slice Bb mb db] := by rw [hw3]; exact (Blk.new' _ _ _ (by simp)).alloc _
  have bz : Blk w3 (w.heap.size + 1 + 1) 31 #[.bool false, .slice none 0 0, .slice none 0 0] := by rw [hw3]; exact Blk.new' _ _ _ (by simp)
  rw [← hw3]
  clear hw3
  obtain ⟨ga, hga⟩ : ∃ g, g = w.heap.size := ⟨_, rfl⟩
  obtain ⟨gb, hgb⟩ : ∃ g, g = w.heap.size + 1 := ⟨_, rfl⟩
  obtain ⟨gz, hgz⟩ : ∃ g, g = w.heap.size + 1 + 1 := ⟨_, rfl⟩
  have hgz2 : w.heap.size ≤ gz := by omega
  rw [← hgz] at bz ⊢
  rw [← hgb] at bb ⊢
  rw [← hga] at ba ⊢
  clear hgz hgb hga
  have bk := HK.out.up U3
  have HM := Lib.hid (fun wx vx (u : Up w3 wx) (h : QV wx vx ((-(k : Int) : Int) : Rat)) => mul_q (HX.out.up (U3.trans u)) (h.iv (B := 3) (qs_int _ (by omega) (by omega))) (by omega))
  have HE : Hid (∀ W : World, Up w3 W → (W.cell? ⟨ga, 0, none⟩ = some (.bool sa) ∧ W.cell? ⟨ga, 1, none⟩ = some (.slice Aa na ca) ∧ W.cell? ⟨ga, 2, none⟩ = some (.slice Ba ma da)) ∧ (W.cell? ⟨gk, 0, none⟩ = some (.int .i64 (k : Int)))) := Lib.hid fun W hW => And.intro (tri (ba.up hW)) (int_cell (bk.up hW))
  clear HK
  go_wp2_with fail
  refine wp_region_noPanic ?_
  refine wp_region_till (S := (fun wx => (wx.cell? ⟨ga, 0, none⟩ = some (.bool sa) ∧ wx.cell? ⟨ga, 1, none⟩ = some (.slice Aa na ca) ∧ wx.cell? ⟨ga, 2, none⟩ = some (.slice Ba ma da)) ∧ (wx.cell? ⟨gk, 0, none⟩ = some (.int .i64 (k : Int))))) 5 [(0, 0), (1, 0), (2, 0), (3, 1), (4, 1)] [5] (by kernel_rfl) (by as_aux_lemma => kernel_rfl) (by as_aux_lemma => kernel_rfl) (by as_aux_lemma => kernel_rfl) (fun _ _ _ _ _ h => h) (HE.out _ (Up.refl w3).drew) ?_
  intro O5 HO5
  refine wpT_take (i := 0) (v := ?_) (by as_aux_lemma => rw [HO5.out]; simp only [List.getElem?_toArray, List.getElem?_cons_zero]; rfl) (Or.inl ⟨(by rfl), ?_⟩) ?_
  rotate_left
  · as_aux_lemma => intro wx hSx; (try dsimp only at hSx); go_simp; try with_reducible rfl
  try simp only [Act.put, List.setIfInBounds_toArray, List.set_cons_zero, List.set_cons_succ]
  refine wpT_take (i := 1) (v := ?_) (by as_aux_lemma => rw [HO5.out]; simp only [List.getElem?_toArray, List.getElem?_cons_succ, List.getElem?_cons_zero]; rfl) (Or.inl ⟨(by rfl), ?_⟩) ?_
  rotate_left
  · as_aux_lemma => intro wx hSx; (try dsimp only at hSx); go_simp; try with_reducible rfl
  try simp only [Act.put, List.setIfInBounds_toArray, List.set_cons_zero, List.set_cons_succ]
  refine wpT_take (i := 2) (v := ?_) (by as_aux_lemma => rw [HO5.out]; simp only [List.getElem?_toArray, List.getElem?_cons_succ, List.getElem?_cons_zero]; rfl) (Or.inl ⟨(by rfl), ?_⟩) ?_
  rotate_left
  · as_aux_lemma => intro wx hSx; (try dsimp only at hSx); go_simp; try with_reducible rfl
  try simp only [Act.put, List.setIfInBounds_toArray, List.set_cons_zero, List.set_cons_succ]
  refine wpT_call (i := 3) (by as_aux_lemma => rw [HO5.out]; simp only [List.getElem?_toArray, List.getElem?_cons_succ, List.getElem?_cons_zero]; rfl) (by rfl) (fun K' hK => ?_)
  go_simp
  refine (HF.out _).mono ?_
  rintro e w6 ⟨v6, rfl, hQ6, U6⟩
  obtain ⟨s6, A6, n6, c6, B6, m6, d6, rfl⟩ := hQ6.shape
  have HQ6 := Lib.hid hQ6
  have V6 : Up w3 w6 := Up.trans (Up.refl w3).drew U6
  have kk6 := HE.out _ V6
  clear hQ6
  go_wp2_with fail
  refine hK.out _ _ kk6 (fun _ => ?_)
  clear hK K'
  try simp only [Act.put, List.setIfInBounds_toArray, List.set_cons_zero, List.set_cons_succ]
  refine wpT_call (i := 4) (by as_aux_lemma => rw [HO5.out]; simp only [List.getElem?_toArray, List.getElem?_cons_succ, List.getElem?_cons_zero]; rfl) (by rfl) (fun K' hK => ?_)
  go_simp
  refine (HM.out _ _ V6 HQ6.out).mono ?_
  rintro e w7 ⟨v7, rfl, hQ7, U7⟩
  obtain ⟨s7, A7, n7, c7, B7, m7, d7, rfl⟩ := hQ7.shape
  have HQ7 := Lib.hid hQ7
  have V7 : Up w3 w7 := Up.trans V6 U7
  have kk7 := HE.out _ V7
  clear hQ7
  have x8 := bz.up V7
  obtain ⟨k0, k1, k2⟩ := tri x8
  have f0 := x8.frozen 0
  have f1 := x8.frozen 1
  have f2 := x8.frozen 2
  clear x8
  go_wp2_with fail
  refine hK.out _ _ kk7 (fun _ => ?_)
  clear hK K'
  try simp only [Act.put, List.setIfInBounds_toArray, List.set_cons_zero, List.set_cons_succ]
  refine wpT_tail (i := 5) (by as_aux_lemma => rw [HO5.out]; simp only [List.getElem?_toArray, List.getElem?_cons_succ, List.getElem?_cons_zero]; rfl) (by rfl) (fun K' hK => ?_)
  go_simp
  go_wp2_with fail
  refine hK.out _ _ ?_
  clear hK K'
  try simp only [Act.put, List.setIfInBounds_toArray, List.set_cons_zero, List.set_cons_succ]
  refine wpT_end (NoPanic.normal ?_)
  clear HO5 O5
  have x9 := bz.up V7
  go_wp2_with fail
  obtain ⟨k0, k1, k2⟩ := tri (tri_set x9 (.bool s7) (.slice A7 n7 c7) (.slice B7 m7 d7))
  refine bodyPost_ret (v := .agg #[.bool s7, .slice A7 n7 c7, .slice B7 m7 d7]) ?_ rfl (ret_q x9 HQ7.out (U3.trans V7) hgz2)
  simp [results, Try.results42, go_sem, k0, k1, k2]

set_option maxRecDepth 100000 in
set_option maxHeartbeats 3200000 in
theorem pw2_q {va vb : Value} {x y : Rat} {B : Nat} {gk k : Nat} {w : World} (ha : IV w va x B) (hb : IV w vb y B) (hk : Blk w gk 3 #[.int .i64 (k : Int)]) (hk2 : k ≤ 100) (hB : B ≤ 100000000) :
    Calls Try.prog 43 #[va, vb, .pointer (some ⟨gk, 0, none⟩)] w (RetQ w ((x + y) * (((1 : Int) : Rat) / (((k : Int) + 1 : Int) : Rat)))) := by
  have HX := Lib.hid ha
  have HY := Lib.hid hb
  have HSm := Lib.hid (fun (wx : World) => small_q (w := wx) 1 ((k : Int) + 1) (by omega) (by omega) (by omega) (by omega))
  have HQ1 := Lib.hid (Nat.le_trans (qs_add x y) (Nat.add_le_add_right (Nat.add_le_add ha.qs hb.qs) 1))
  have HQ2 := Lib.hid (Nat.le_trans (qs_div ((1 : Int) : Rat) (((k : Int) + 1 : Int) : Rat)) (Nat.add_le_add (qs_int 1 (by omega) (by omega)) (qs_int ((k : Int) + 1) (by omega) (by omega))))
  have HK := Lib.hid hk
  obtain ⟨sa, Aa, na, ca, Ba, ma, da, rfl⟩ := ha.shape
  obtain ⟨sb, Ab, nb, cb, Bb, mb, db, rfl⟩ := hb.shape
  have e1 : IntKind.i64.wrap ((k : Int) + 1) = (k : Int) + 1 := IntWalk.i64_in _ (by omega)
  clear ha hb hk
  go_enter Try.func43, Try.ntmps43
  go_wp2_with fail
  obtain ⟨w3, hw3⟩ : ∃ w3, w3 = ((w.alloc (Obj.cells #[.bool sa, .slice Aa na ca, .slice Ba ma da] 31)).alloc (Obj.cells #[.bool sb, .slice Ab nb cb, .slice Bb mb db] 31)).alloc (Obj.cells #[.bool false, .slice none 0 0, .slice none 0 0] 31) := ⟨_, rfl⟩
  have U3 : Up w w3 := by rw [hw3]; exact (((Below.refl _ _).alloc (Nat.le_refl _) _).alloc (by simp) _).alloc (by simp; omega) _
  have ba : Blk w3 w.heap.size 31 #[.bool sa, .slice Aa na ca, .slice Ba ma da] := by rw [hw3]; exact ((Blk.new w _ _).alloc _).alloc _
  have bb : Blk w3 (w.heap.size + 1) 31 #[.bool sb, .slice Ab nb cb, .slice Bb mb db] := by rw [hw3]; exact (Blk.new' _ _ _ (by simp)).alloc _
  have bz : Blk w3 (w.heap.size + 1 + 1) 31 #[.bool false, .slice none 0 0, .slice none 0 0] := by rw [hw3]; exact Blk.new' _ _ _ (by simp)
  rw [← hw3]
  clear hw3
  obtain ⟨ga, hga⟩ : ∃ g, g = w.heap.size := ⟨_, rfl⟩
  obtain ⟨gb, hgb⟩ : ∃ g, g = w.heap.size + 1 := ⟨_, rfl⟩
  obtain ⟨gz, hgz⟩ : ∃ g, g = w.heap.size + 1 + 1 := ⟨_, rfl⟩
  have hgz2 : w.heap.size ≤ gz := by omega
  rw [← hgz] at bz ⊢
  rw [← hgb] at bb ⊢
  rw [← hga] at ba ⊢
  clear hgz hgb hga
  have bk := HK.out.up U3
  have HA := Lib.hid (fun wx (u : Up w3 wx) => add_q (HX.out.up (U3.trans u)) (HY.out.up (U3.trans u)) (by omega))
  have HM := Lib.hid (fun wx vx vy (_ : Up w3 wx) (h : QV wx vx (x + y)) (h' : QV wx vy (((1 : Int) : Rat) / (((k : Int) + 1 : Int) : Rat))) => mul_q (h.iv HQ1.out) (h'.iv HQ2.out) (by omega))
  have HE : Hid (∀ W : World, Up w3 W → (W.cell? ⟨ga, 0, none⟩ = some (.bool sa) ∧ W.cell? ⟨ga, 1, none⟩ = some (.slice Aa na ca) ∧ W.cell? ⟨ga, 2, none⟩ = some (.slice Ba ma da)) ∧ (W.cell? ⟨gb, 0, none⟩ = some (.bool sb) ∧ W.cell? ⟨gb, 1, none⟩ = some (.slice Ab nb cb) ∧ W.cell? ⟨gb, 2, none⟩ = some (.slice Bb mb db)) ∧ (W.cell? ⟨gk, 0, none⟩ = some (.int .i64 (k : Int)))) := Lib.hid fun W hW => And.intro (tri (ba.up hW)) (And.intro (tri (bb.up hW)) (int_cell (bk.up hW)))
  clear HK
  go_wp2_with fail
  refine wp_region_noPanic ?_
  refine wp_region_till (S := (fun wx => (wx.cell? ⟨ga, 0, none⟩ = some (.bool sa) ∧ wx.cell? ⟨ga, 1, none⟩ = some (.slice Aa na ca) ∧ wx.cell? ⟨ga, 2, none⟩ = some (.slice Ba ma da)) ∧ (wx.cell? ⟨gb, 0, none⟩ = some (.bool sb) ∧ wx.cell? ⟨gb, 1, none⟩ = some (.slice Ab nb cb) ∧ wx.cell? ⟨gb, 2, none⟩ = some (.slice Bb mb db)) ∧ (wx.cell? ⟨gk, 0, none⟩ = some (.int .i64 (k : Int))))) 7 [(0, 0), (1, 0), (3, 0), (4, 0), (2, 1), (5, 1), (6, 1)] [7] (by kernel_rfl) (by as_aux_lemma => kernel_rfl) (by as_aux_lemma => kernel_rfl) (by as_aux_lemma => kernel_rfl) (fun _ _ _ _ _ h => h) (HE.out _ (Up.refl w3).drew) ?_
  intro O6 HO6
  refine wpT_take (i := 0) (v := ?_) (by as_aux_lemma => rw [HO6.out]; simp only [List.getElem?_toArray, List.getElem?_cons_zero]; rfl) (Or.inl ⟨(by rfl), ?_⟩) ?_
  rotate_left
  · as_aux_lemma => intro wx hSx; (try dsimp only at hSx); go_simp; try with_reducible rfl
  try simp only [Act.put, List.setIfInBounds_toArray, List.set_cons_zero, List.set_cons_succ]
  refine wpT_take (i := 1) (v := ?_) (by as_aux_lemma => rw [HO6.out]; simp only [List.getElem?_toArray, List.getElem?_cons_succ, List.getElem?_cons_zero]; rfl) (Or.inl ⟨(by rfl), ?_⟩) ?_
  rotate_left
  · as_aux_lemma => intro wx hSx; (try dsimp only at hSx); go_simp; try with_reducible rfl
  try simp only [Act.put, List.setIfInBounds_toArray, List.set_cons_zero, List.set_cons_succ]
  refine wpT_take (i := 3) (v := ?_) (by as_aux_lemma => rw [HO6.out]; simp only [List.getElem?_toArray, List.getElem?_cons_succ, List.getElem?_cons_zero]; rfl) (Or.inl ⟨(by rfl), ?_⟩) ?_
  rotate_left
  · as_aux_lemma => intro wx hSx; (try dsimp only at hSx); go_simp; try with_reducible rfl
  try simp only [Act.put, List.setIfInBounds_toArray, List.set_cons_zero, List.set_cons_succ]
  refine wpT_take (i := 4) (v := ?_) (by as_aux_lemma => rw [HO6.out]; simp only [List.getElem?_toArray, List.getElem?_cons_succ, List.getElem?_cons_zero]; rfl) (Or.inl ⟨(by rfl), ?_⟩) ?_
  rotate_left
  · as_aux_lemma => intro wx hSx; (try dsimp only at hSx); go_simp; try with_reducible rfl
  try simp only [Act.put, List.setIfInBounds_toArray, List.set_cons_zero, List.set_cons_succ]
  refine wpT_call (i := 2) (by as_aux_lemma => rw [HO6.out]; simp only [List.getElem?_toArray, List.getElem?_cons_succ, List.getElem?_cons_zero]; rfl) (by rfl) (fun K' hK => ?_)
  go_simp
  refine (HA.out _ (Up.refl w3).drew).mono ?_
  rintro e w6 ⟨v6, rfl, hQ6, U6⟩
  obtain ⟨s6, A6, n6, c6, B6, m6, d6, rfl⟩ := hQ6.shape
  have HQ6 := Lib.hid hQ6
  have V6 : Up w3 w6 := Up.trans (Up.refl w3).drew U6
  have kk6 := HE.out _ V6
  clear hQ6
  go_wp2_with fail
  refine hK.out _ _ kk6 (fun _ => ?_)
  clear hK K'
  try simp only [Act.put, List.setIfInBounds_toArray, List.set_cons_zero, List.set_cons_succ]
  refine wpT_call (i := 5) (by as_aux_lemma => rw [HO6.out]; simp only [List.getElem?_toArray, List.getElem?_cons_succ, List.getElem?_cons_zero]; rfl) (by rfl) (fun K' hK => ?_)
  go_simp
  refine (HSm.out _).mono ?_
  rintro e w7 ⟨v7, rfl, hQ7, U7⟩
  obtain ⟨s7, A7, n7, c7, B7, m7, d7, rfl⟩ := hQ7.shape
  have HQ7 := Lib.hid hQ7
  have V7 : Up w3 w7 := Up.trans V6 U7
  have kk7 := HE.out _ V7
  clear hQ7
  go_wp2_with fail
  refine hK.out _ _ kk7 (fun _ => ?_)
  clear hK K'
  try simp only [Act.put, List.setIfInBounds_toArray, List.set_cons_zero, List.set_cons_succ]
  refine wpT_call (i := 6) (by as_aux_lemma => rw [HO6.out]; simp only [List.getElem?_toArray, List.getElem?_cons_succ, List.getElem?_cons_zero]; rfl) (by rfl) (fun K' hK => ?_)
  go_simp
  refine (HM.out _ _ _ V7 (HQ6.out.up U7) HQ7.out).mono ?_
  rintro e w8 ⟨v8, rfl, hQ8, U8⟩
  obtain ⟨s8, A8, n8, c8, B8, m8, d8, rfl⟩ := hQ8.shape
  have HQ8 := Lib.hid hQ8
  have V8 : Up w3 w8 := Up.trans V7 U8
  have kk8 := HE.out _ V8
  clear hQ8
  have x8 := bz.up V8
  obtain ⟨k0, k1, k2⟩ := tri x8
  have f0 := x8.frozen 0
  have f1 := x8.frozen 1
  have f2 := x8.frozen 2
  clear x8
  go_wp2_with fail
  refine hK.out _ _ kk8 (fun _ => ?_)
  clear hK K'
  try simp only [Act.put, List.setIfInBounds_toArray, List.set_cons_zero, List.set_cons_succ]
  refine wpT_tail (i := 7) (by as_aux_lemma => rw [HO6.out]; simp only [List.getElem?_toArray, List.getElem?_cons_succ, List.getElem?_cons_zero]; rfl) (by rfl) (fun K' hK => ?_)
  go_simp
  go_wp2_with fail
  refine hK.out _ _ ?_
  clear hK K'
  try simp only [Act.put, List.setIfInBounds_toArray, List.set_cons_zero, List.set_cons_succ]
  refine wpT_end (NoPanic.normal ?_)
  clear HO6 O6
  have x9 := bz.up V8
  go_wp2_with fail
  obtain ⟨k0, k1, k2⟩ := tri (tri_set x9 (.bool s8) (.slice A8 n8 c8) (.slice B8 m8 d8))
  refine bodyPost_ret (v := .agg #[.bool s8, .slice A8 n8 c8, .slice B8 m8 d8]) ?_ rfl (ret_q x9 HQ8.out (U3.trans V8) hgz2)
  simp [results, Try.results43, go_sem, k0, k1, k2]
end Go.Proofs.Ytkngegcfdabpoaa
