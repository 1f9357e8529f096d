/-
  The contracts of the named metrics.
-/
import Derived.Test.YtnaeabkknmoaeaaMComb
import Derived.Test.YtnaeabkknmoaeaaSched
namespace Go.Proofs.Ytnaeabkknmoaeaa
open Go.RowKit

def RetM (w0 : World) (b f : List Int) (e : Ending) (w' : World) : Prop :=
  ∃ g h : Nat, e = .returned (.agg #[.slice (some ⟨g, 0, none⟩) 26 26, .slice (some ⟨h, 0, none⟩) 26 26]) ∧ BI w' g b ∧ BI w' h f ∧ g ≠ h ∧ w0.heap.size ≤ g ∧ w0.heap.size ≤ h ∧ Up w0 w'
theorem RetZ.toM {w : World} {e : Ending} {w' : World} (h : RetZ w e w') : RetM w zero26 zero26 e w' := h
theorem RetM.drew {w0 : World} {b f : List Int} {e : Ending} {w' : World} (h : RetM w0 b f e w') : RetM w0 b f e w'.drew := by
  obtain ⟨g, h, e, h1, h2, h3, h4, h5, h6⟩ := h
  exact ⟨g, h, e, Blk.drew h1, Blk.drew h2, h3, h4, h5, h6.drew⟩
theorem RetM.cast {w0 : World} {b f b' : List Int} {e : Ending} {w' : World} (h : RetM w0 b f e w') (hb : b = b') : RetM w0 b' f e w' := hb ▸ h
/-- A metric under way: the result's block q, the variable's block r, the lists' blocks g and h. -/
structure Fr (w0 w : World) (q r g h : Nat) (b f : List Int) : Prop where
  bq : Blk w q 28 #[.slice none 0 0, .slice none 0 0]
  br : Blk w r 28 #[.slice (some ⟨g, 0, none⟩) 26 26, .slice (some ⟨h, 0, none⟩) 26 26]
  bg : BI w g b
  bh : BI w h f
  qr : q ≠ r
  qg : q ≠ g
  qh : q ≠ h
  rg : r ≠ g
  rh : r ≠ h
  gh : g ≠ h
  q0 : w0.heap.size ≤ q
  r0 : w0.heap.size ≤ r
  g0 : w0.heap.size ≤ g
  h0 : w0.heap.size ≤ h
  up : Up w0 w
section
variable {w0 w : World} {q r g h : Nat} {b f : List Int}
theorem Fr.setB (F : Fr w0 w q r g h b f) (k : Nat) (z : Int) : Fr w0 (w.setCell ⟨g, k, none⟩ (.int .i64 z)) q r g h (b.set k z) f :=
  ⟨F.bq.far (by simpa using F.qg) _, F.br.far (by simpa using F.rg) _, F.bg.set_ k z, F.bh.far (by simpa using F.gh.symm) _, F.qr, F.qg, F.qh, F.rg, F.rh, F.gh, F.q0, F.r0, F.g0, F.h0, F.up.setCell (by simpa using F.g0) _⟩
theorem Fr.setF (F : Fr w0 w q r g h b f) (k : Nat) (z : Int) : Fr w0 (w.setCell ⟨h, k, none⟩ (.int .i64 z)) q r g h b (f.set k z) :=
  ⟨F.bq.far (by simpa using F.qh) _, F.br.far (by simpa using F.rh) _, F.bg.far (by simpa using F.gh) _, F.bh.set_ k z, F.qr, F.qg, F.qh, F.rg, F.rh, F.gh, F.q0, F.r0, F.g0, F.h0, F.up.setCell (by simpa using F.h0) _⟩
theorem Fr.drew (F : Fr w0 w q r g h b f) : Fr w0 w.drew q r g h b f :=
  ⟨F.bq.drew, F.br.drew, Blk.drew F.bg, Blk.drew F.bh, F.qr, F.qg, F.qh, F.rg, F.rh, F.gh, F.q0, F.r0, F.g0, F.h0, F.up.drew⟩
theorem Fr.cells (F : Fr w0 w q r g h b f) : w.cell? ⟨r, 0, none⟩ = some (.slice (some ⟨g, 0, none⟩) 26 26) ∧ w.cell? ⟨r, 1, none⟩ = some (.slice (some ⟨h, 0, none⟩) 26 26) := duo F.br
theorem Fr.out (F : Fr w0 w q r g h b f) : RetM w0 b f (.returned (.agg #[.slice (some ⟨g, 0, none⟩) 26 26, .slice (some ⟨h, 0, none⟩) 26 26])) ((w.setCell ⟨q, 0, none⟩ (.slice (some ⟨g, 0, none⟩) 26 26)).setCell ⟨q, 1, none⟩ (.slice (some ⟨h, 0, none⟩) 26 26)) :=
  ⟨g, h, rfl, (F.bg.far (by simpa using F.qg.symm) _).far (by simpa using F.qg.symm) _, (F.bh.far (by simpa using F.qh.symm) _).far (by simpa using F.qh.symm) _, F.gh, F.g0, F.h0, up_duo F.up F.q0 _ _⟩
theorem Fr.res (F : Fr w0 w q r g h b f) : ((w.setCell ⟨q, 0, none⟩ (.slice (some ⟨g, 0, none⟩) 26 26)).setCell ⟨q, 1, none⟩ (.slice (some ⟨h, 0, none⟩) 26 26)).cell? ⟨q, 0, none⟩ = some (.slice (some ⟨g, 0, none⟩) 26 26) ∧ ((w.setCell ⟨q, 0, none⟩ (.slice (some ⟨g, 0, none⟩) 26 26)).setCell ⟨q, 1, none⟩ (.slice (some ⟨h, 0, none⟩) 26 26)).cell? ⟨q, 1, none⟩ = some (.slice (some ⟨h, 0, none⟩) 26 26) := duo (duo_set F.bq _ _)
end
theorem Fr.start {w w1 : World} {g h : Nat} {b f : List Int} (h1 : BI w1 g b) (h2 : BI w1 h f) (h3 : g ≠ h) (h4 : (w.alloc (Obj.cells #[.slice none 0 0, .slice none 0 0] 28)).heap.size ≤ g) (h5 : (w.alloc (Obj.cells #[.slice none 0 0, .slice none 0 0] 28)).heap.size ≤ h)
    (h6 : Up (w.alloc (Obj.cells #[.slice none 0 0, .slice none 0 0] 28)) w1) :
    Fr w (w1.alloc (Obj.cells #[.slice (some ⟨g, 0, none⟩) 26 26, .slice (some ⟨h, 0, none⟩) 26 26] 28)) w.heap.size w1.heap.size g h b f := by
  rw [World.size_alloc] at h4 h5
  have r0 := Blk.up (Blk.new w 28 #[.slice none 0 0, .slice none 0 0]) h6
  have l0 := r0.lt
  have l1 := h1.lt
  have l2 := h2.lt
  have U1 := Up.trans ((Below.refl _ w).alloc (Nat.le_refl _) _) h6
  exact ⟨r0.alloc _, Blk.new _ _ _, h1.up ((Below.refl _ w1).alloc (Nat.le_refl _) _), h2.up ((Below.refl _ w1).alloc (Nat.le_refl _) _), by omega, by omega, by omega, by omega, by omega, h3, Nat.le_refl _, by omega, by omega, by omega, Up.trans U1 ((Below.refl _ w1).alloc (Nat.le_refl _) _)⟩
def callsB : List Int := [0, 0, 0, 0, 0, 0, 0, 0, 0, 1, 1, 0, 0, 0, 0, 0, 0, 0, 0, 0, 0, 0, 0, 0, 0, 0]
def ticksB : List Int := [0, 0, 0, 0, 0, 0, 0, 0, 0, 0, 0, 0, 0, 0, 0, 0, 0, 0, 0, 0, 1, 0, 0, 0, 0, 0]
def heapB : List Int := [0, 0, 1, 1, 0, 0, 0, 0, 0, 0, 0, 0, 1, 1, 0, 0, 0, 2, 0, 0, 0, 0, 0, 0, 0, 0]
def heapF : List Int := [0, 0, 1, 1, 0, 0, 0, 0, 0, 0, 0, 0, 1, 1, 0, 0, 0, 0, 0, 0, 0, 0, 0, 0, 0, 0]

set_option maxHeartbeats 3200000 in
theorem refCalls_any (w : World) : Calls Try.prog 33 #[] w (RetM w callsB zero26) := by
  go_enter Try.func33, Try.ntmps33
  go_wp2_with fail
  refine (refFree_any _).mono ?_
  rintro e w1 ⟨g, h, rfl, h1, h2, h3, h4, h5, h6⟩
  have F0 : Fr _ _ _ _ g h zero26 zero26 := Fr.start h1 h2 h3 h4 h5 h6
  go_wp2_with fail
  obtain ⟨w2, hw2⟩ : ∃ w2, w2 = w1.alloc (Obj.cells #[.slice (some ⟨g, 0, none⟩) 26 26, .slice (some ⟨h, 0, none⟩) 26 26] 28) := ⟨_, rfl⟩
  obtain ⟨r, hr⟩ : ∃ r, r = w1.heap.size := ⟨_, rfl⟩
  obtain ⟨q, hq⟩ : ∃ r, r = w.heap.size := ⟨_, rfl⟩
  rw [← hw2, ← hr, ← hq] at F0 ⊢
  clear hw2 hr hq h1 h2 h3 h4 h5 h6
  have c9 := F0.bg.cell (k := 9) (by decide)
  simp only [zero26] at c9
  have f9 := Blk.frozen F0.bg 9
  obtain ⟨s0, t0⟩ := F0.cells
  have F1 := F0.setB 9 (1)
  have c10 := F1.bg.cell (k := 10) (by decide)
  simp only [zero26] at c10
  have f10 := Blk.frozen F1.bg 10
  obtain ⟨s1, t1⟩ := F1.cells
  have F2 := F1.setB 10 (1)
  obtain ⟨s2, t2⟩ := F2.cells
  have g0 := Blk.frozen F2.bq 0
  have g1 := Blk.frozen F2.bq 1
  obtain ⟨d0, d1⟩ := duo F2.bq
  have F := Lib.hid F2
  clear F0 F1 F2
  refine wp_region_noPanic ?_
  refine wp_region_sched (S := (fun wx => wx.cell? ⟨r, 0, none⟩ = some (.slice (some ⟨g, 0, none⟩) 26 26))) [(0, false), (1, false), (2, false), (3, false), (4, false), (5, true), (6, false), (7, true)] (by kernel_rfl) (by as_aux_lemma => kernel_rfl) (by as_aux_lemma => kernel_rfl) (by as_aux_lemma => kernel_rfl) (fun _ _ _ _ _ h => h) s0 ?_
  intro O1 HO1
  refine wpSched_take (i := 0) (v := ?v1x1) (by as_aux_lemma => rw [HO1.out]; simp only [List.getElem?_toArray, List.getElem?_cons_zero]; rfl) (Or.inl ⟨(by rfl), ?y1x1⟩) ?r1x1
  case y1x1 => as_aux_lemma => intro wx hSx; (try dsimp only at hSx); go_simp; try with_reducible rfl
  try simp only [Act.put, List.setIfInBounds_toArray, List.set_cons_zero, List.set_cons_succ]
  refine wpSched_take (i := 1) (v := ?v1x2) (by as_aux_lemma => rw [HO1.out]; simp only [List.getElem?_toArray, List.getElem?_cons_succ, List.getElem?_cons_zero]; rfl) (Or.inl ⟨(by rfl), ?y1x2⟩) ?r1x2
  case y1x2 => as_aux_lemma => intro wx hSx; (try dsimp only at hSx); go_simp; try with_reducible rfl
  try simp only [Act.put, List.setIfInBounds_toArray, List.set_cons_zero, List.set_cons_succ]
  refine wpSched_take (i := 2) (v := ?v1x3) (by as_aux_lemma => rw [HO1.out]; simp only [List.getElem?_toArray, List.getElem?_cons_succ, List.getElem?_cons_zero]; rfl) (Or.inl ⟨(by rfl), ?y1x3⟩) ?r1x3
  case y1x3 => as_aux_lemma => intro wx hSx; (try dsimp only at hSx); go_simp; try with_reducible rfl
  try simp only [Act.put, List.setIfInBounds_toArray, List.set_cons_zero, List.set_cons_succ]
  refine wpSched_take (i := 3) (v := ?v1x4) (by as_aux_lemma => rw [HO1.out]; simp only [List.getElem?_toArray, List.getElem?_cons_succ, List.getElem?_cons_zero]; rfl) (Or.inl ⟨(by rfl), ?y1x4⟩) ?r1x4
  case y1x4 => as_aux_lemma => intro wx hSx; (try dsimp only at hSx); go_simp; try with_reducible rfl
  try simp only [Act.put, List.setIfInBounds_toArray, List.set_cons_zero, List.set_cons_succ]
  refine wpSched_take (i := 4) (v := ?v1x5) (by as_aux_lemma => rw [HO1.out]; simp only [List.getElem?_toArray, List.getElem?_cons_succ, List.getElem?_cons_zero]; rfl) (Or.inl ⟨(by rfl), ?y1x5⟩) ?r1x5
  case y1x5 => as_aux_lemma => intro wx hSx; (try dsimp only at hSx); go_simp; try with_reducible rfl
  try simp only [Act.put, List.setIfInBounds_toArray, List.set_cons_zero, List.set_cons_succ]
  refine wpSched_call (i := 5) (by as_aux_lemma => rw [HO1.out]; simp only [List.getElem?_toArray, List.getElem?_cons_succ, List.getElem?_cons_zero]; rfl) (by rfl) (fun K' hK => ?_)
  go_simp
  go_wp2_with fail
  refine hK.out _ _ s1 (fun _ => ?_)
  clear hK K'
  try simp only [Act.put, List.setIfInBounds_toArray, List.set_cons_zero, List.set_cons_succ]
  refine wpSched_take (i := 6) (v := ?v1x6) (by as_aux_lemma => rw [HO1.out]; simp only [List.getElem?_toArray, List.getElem?_cons_succ, List.getElem?_cons_zero]; rfl) (Or.inl ⟨(by rfl), ?y1x6⟩) ?r1x6
  case y1x6 => as_aux_lemma => intro wx hSx; (try dsimp only at hSx); go_simp; try with_reducible rfl
  try simp only [Act.put, List.setIfInBounds_toArray, List.set_cons_zero, List.set_cons_succ]
  refine wpSched_call (i := 7) (by as_aux_lemma => rw [HO1.out]; simp only [List.getElem?_toArray, List.getElem?_cons_succ, List.getElem?_cons_zero]; rfl) (by rfl) (fun K' hK => ?_)
  go_simp
  go_wp2_with fail
  refine hK.out _ _ s2 (fun _ => ?_)
  clear hK K'
  try simp only [Act.put, List.setIfInBounds_toArray, List.set_cons_zero, List.set_cons_succ]
  refine wpSched_end (NoPanic.normal ?_)
  clear HO1 O1
  go_wp2_with fail
  obtain ⟨c0, c1⟩ := F.out.res
  refine bodyPost_ret (v := .agg #[.slice (some ⟨g, 0, none⟩) 26 26, .slice (some ⟨h, 0, none⟩) 26 26]) ?_ rfl (RetM.cast (RetM.drew F.out.out) (by decide))
  simp [results, Try.results33, go_sem, c0, c1]

set_option maxHeartbeats 3200000 in
theorem refStack_any (w : World) : Calls Try.prog 34 #[] w (RetM w stackB zero26) := by
  go_enter Try.func34, Try.ntmps34
  go_wp2_with fail
  refine (refCalls_any _).mono ?_
  rintro e w1 ⟨g, h, rfl, h1, h2, h3, h4, h5, h6⟩
  have F0 : Fr _ _ _ _ g h callsB zero26 := Fr.start h1 h2 h3 h4 h5 h6
  go_wp2_with fail
  obtain ⟨w2, hw2⟩ : ∃ w2, w2 = w1.alloc (Obj.cells #[.slice (some ⟨g, 0, none⟩) 26 26, .slice (some ⟨h, 0, none⟩) 26 26] 28) := ⟨_, rfl⟩
  obtain ⟨r, hr⟩ : ∃ r, r = w1.heap.size := ⟨_, rfl⟩
  obtain ⟨q, hq⟩ : ∃ r, r = w.heap.size := ⟨_, rfl⟩
  rw [← hw2, ← hr, ← hq] at F0 ⊢
  clear hw2 hr hq h1 h2 h3 h4 h5 h6
  have c11 := F0.bg.cell (k := 11) (by decide)
  simp only [callsB] at c11
  have f11 := Blk.frozen F0.bg 11
  obtain ⟨s0, t0⟩ := F0.cells
  have F1 := F0.setB 11 (-1)
  have c25 := F1.bg.cell (k := 25) (by decide)
  simp only [callsB] at c25
  have f25 := Blk.frozen F1.bg 25
  obtain ⟨s1, t1⟩ := F1.cells
  have F2 := F1.setB 25 (-1)
  obtain ⟨s2, t2⟩ := F2.cells
  have g0 := Blk.frozen F2.bq 0
  have g1 := Blk.frozen F2.bq 1
  obtain ⟨d0, d1⟩ := duo F2.bq
  have F := Lib.hid F2
  clear F0 F1 F2
  refine wp_region_noPanic ?_
  refine wp_region_sched (S := (fun wx => wx.cell? ⟨r, 0, none⟩ = some (.slice (some ⟨g, 0, none⟩) 26 26))) [(0, false), (1, false), (2, false), (3, false), (4, false), (5, true), (6, false), (7, true)] (by kernel_rfl) (by as_aux_lemma => kernel_rfl) (by as_aux_lemma => kernel_rfl) (by as_aux_lemma => kernel_rfl) (fun _ _ _ _ _ h => h) s0 ?_
  intro O2 HO2
  refine wpSched_take (i := 0) (v := ?v2x1) (by as_aux_lemma => rw [HO2.out]; simp only [List.getElem?_toArray, List.getElem?_cons_zero]; rfl) (Or.inl ⟨(by rfl), ?y2x1⟩) ?r2x1
  case y2x1 => as_aux_lemma => intro wx hSx; (try dsimp only at hSx); go_simp; try with_reducible rfl
  try simp only [Act.put, List.setIfInBounds_toArray, List.set_cons_zero, List.set_cons_succ]
  refine wpSched_take (i := 1) (v := ?v2x2) (by as_aux_lemma => rw [HO2.out]; simp only [List.getElem?_toArray, List.getElem?_cons_succ, List.getElem?_cons_zero]; rfl) (Or.inl ⟨(by rfl), ?y2x2⟩) ?r2x2
  case y2x2 => as_aux_lemma => intro wx hSx; (try dsimp only at hSx); go_simp; try with_reducible rfl
  try simp only [Act.put, List.setIfInBounds_toArray, List.set_cons_zero, List.set_cons_succ]
  refine wpSched_take (i := 2) (v := ?v2x3) (by as_aux_lemma => rw [HO2.out]; simp only [List.getElem?_toArray, List.getElem?_cons_succ, List.getElem?_cons_zero]; rfl) (Or.inl ⟨(by rfl), ?y2x3⟩) ?r2x3
  case y2x3 => as_aux_lemma => intro wx hSx; (try dsimp only at hSx); go_simp; try with_reducible rfl
  try simp only [Act.put, List.setIfInBounds_toArray, List.set_cons_zero, List.set_cons_succ]
  refine wpSched_take (i := 3) (v := ?v2x4) (by as_aux_lemma => rw [HO2.out]; simp only [List.getElem?_toArray, List.getElem?_cons_succ, List.getElem?_cons_zero]; rfl) (Or.inl ⟨(by rfl), ?y2x4⟩) ?r2x4
  case y2x4 => as_aux_lemma => intro wx hSx; (try dsimp only at hSx); go_simp; try with_reducible rfl
  try simp only [Act.put, List.setIfInBounds_toArray, List.set_cons_zero, List.set_cons_succ]
  refine wpSched_take (i := 4) (v := ?v2x5) (by as_aux_lemma => rw [HO2.out]; simp only [List.getElem?_toArray, List.getElem?_cons_succ, List.getElem?_cons_zero]; rfl) (Or.inl ⟨(by rfl), ?y2x5⟩) ?r2x5
  case y2x5 => as_aux_lemma => intro wx hSx; (try dsimp only at hSx); go_simp; try with_reducible rfl
  try simp only [Act.put, List.setIfInBounds_toArray, List.set_cons_zero, List.set_cons_succ]
  refine wpSched_call (i := 5) (by as_aux_lemma => rw [HO2.out]; simp only [List.getElem?_toArray, List.getElem?_cons_succ, List.getElem?_cons_zero]; rfl) (by rfl) (fun K' hK => ?_)
  go_simp
  go_wp2_with fail
  refine hK.out _ _ s1 (fun _ => ?_)
  clear hK K'
  try simp only [Act.put, List.setIfInBounds_toArray, List.set_cons_zero, List.set_cons_succ]
  refine wpSched_take (i := 6) (v := ?v2x6) (by as_aux_lemma => rw [HO2.out]; simp only [List.getElem?_toArray, List.getElem?_cons_succ, List.getElem?_cons_zero]; rfl) (Or.inl ⟨(by rfl), ?y2x6⟩) ?r2x6
  case y2x6 => as_aux_lemma => intro wx hSx; (try dsimp only at hSx); go_simp; try with_reducible rfl
  try simp only [Act.put, List.setIfInBounds_toArray, List.set_cons_zero, List.set_cons_succ]
  refine wpSched_call (i := 7) (by as_aux_lemma => rw [HO2.out]; simp only [List.getElem?_toArray, List.getElem?_cons_succ, List.getElem?_cons_zero]; rfl) (by rfl) (fun K' hK => ?_)
  go_simp
  go_wp2_with fail
  refine hK.out _ _ s2 (fun _ => ?_)
  clear hK K'
  try simp only [Act.put, List.setIfInBounds_toArray, List.set_cons_zero, List.set_cons_succ]
  refine wpSched_end (NoPanic.normal ?_)
  clear HO2 O2
  go_wp2_with fail
  obtain ⟨c0, c1⟩ := F.out.res
  refine bodyPost_ret (v := .agg #[.slice (some ⟨g, 0, none⟩) 26 26, .slice (some ⟨h, 0, none⟩) 26 26]) ?_ rfl (RetM.cast (RetM.drew F.out.out) (by decide))
  simp [results, Try.results34, go_sem, c0, c1]

theorem free_ret {w w1 : World} {g h q : Nat} {b f : List Int} (h1 : BI w1 g b) (h2 : BI w1 h f) (h3 : g ≠ h) (h4 : w.heap.size ≤ g) (h5 : w.heap.size ≤ h) (q0 : w.heap.size ≤ q) (_ : Blk w1 q 28 #[.slice none 0 0, .slice none 0 0])  (n0 : g ≠ q) (n1 : h ≠ q) (U : Up w w1) :
    RetM w b f (.returned (.agg #[.slice (some ⟨g, 0, none⟩) 26 26, .slice (some ⟨h, 0, none⟩) 26 26])) ((w1.setCell ⟨q, 0, none⟩ (.slice (some ⟨g, 0, none⟩) 26 26)).setCell ⟨q, 1, none⟩ (.slice (some ⟨h, 0, none⟩) 26 26)) :=
  ⟨g, h, rfl, (h1.far (by simpa using n0) _).far (by simpa using n0) _, (h2.far (by simpa using n1) _).far (by simpa using n1) _, h3, h4, h5, up_duo U q0 _ _⟩
set_option maxHeartbeats 3200000 in
theorem free_any (w : World) : Calls Try.prog 31 #[] w (RetM w zero26 zero26) := by
  go_enter Try.func31, Try.ntmps31
  go_wp2_with fail
  refine (zero_any _).mono ?_
  rintro e w1 ⟨g, h, rfl, h1, h2, h3, h4, h5, h6⟩
  rw [World.size_alloc] at h4 h5
  have r0 := Blk.up (Blk.new w 28 #[.slice none 0 0, .slice none 0 0]) h6
  obtain ⟨d0, d1⟩ := duo r0
  have g0 := Blk.frozen r0 0
  have g1 := Blk.frozen r0 1
  have U1 := Up.trans ((Below.refl _ w).alloc (Nat.le_refl _) _) h6
  have R : Hid (RetM w zero26 zero26 _ _) := Lib.hid (free_ret h1 h2 h3 (by omega) (by omega) (Nat.le_refl _) r0 (by omega) (by omega) U1)
  have RR := Lib.hid (duo (duo_set r0 (.slice (some ⟨g, 0, none⟩) 26 26) (.slice (some ⟨h, 0, none⟩) 26 26)))
  clear h1 h2 h3 h4 h5 h6 r0 U1
  go_wp2_with fail
  obtain ⟨c0, c1⟩ := RR.out
  refine bodyPost_ret (v := .agg #[.slice (some ⟨g, 0, none⟩) 26 26, .slice (some ⟨h, 0, none⟩) 26 26]) ?_ rfl R.out
  simp [results, Try.results31, go_sem, c0, c1]

theorem RetM.alloc {w0 : World} {b f : List Int} {e : Ending} {w' : World} (h : RetM w0 b f e w') (o : Obj) : RetM w0 b f e (w'.alloc o) := by
  obtain ⟨g, h, e, h1, h2, h3, h4, h5, h6⟩ := h
  exact ⟨g, h, e, Blk.alloc h1 o, Blk.alloc h2 o, h3, h4, h5, h6.alloc h6.size o⟩
set_option maxHeartbeats 3200000 in
theorem refTicks_any (w : World) : Calls Try.prog 37 #[] w (RetM w ticksB zero26) := by
  go_enter Try.func37, Try.ntmps37
  go_wp2_with fail
  refine (refFree_any _).mono ?_
  rintro e w1 ⟨g, h, rfl, h1, h2, h3, h4, h5, h6⟩
  have h1 : BI w1 g zero26 := h1
  have h2 : BI w1 h zero26 := h2
  have c20 := h1.cell (k := 20) (by decide)
  have f20 := Blk.frozen h1 20
  have l1 := h1.lt
  have n1 : g ≠ w1.heap.size := by omega
  have r0 := Blk.up (Blk.new w 28 #[.slice none 0 0, .slice none 0 0]) h6
  rw [World.size_alloc] at h4 h5
  obtain ⟨d0, d1⟩ := duo r0
  have l0 := r0.lt
  have n0 : w.heap.size ≠ w1.heap.size := by omega
  have nq : g ≠ w.heap.size := by omega
  have g0 := Blk.frozen r0 0
  have g1 := Blk.frozen r0 1
  have U1 := Up.trans ((Below.refl _ w).alloc (Nat.le_refl _) _) h6
  have r1 := Blk.far (p := ⟨g, 20, none⟩) r0 (by simpa using nq.symm) (.int .i64 1)
  have hG := h1.set_ 20 1
  have hH := BI.far (p := ⟨g, 20, none⟩) h2 (by simpa using h3.symm) (.int .i64 1)
  have UG : Up w (w1.setCell ⟨g, 20, none⟩ (.int .i64 1)) := U1.setCell (by simp; omega) _
  have R := Lib.hid (RetM.alloc (free_ret hG hH h3 (by omega) (by omega) (Nat.le_refl _) r1 (by omega) (by omega) UG) (Obj.cells #[.slice (some ⟨g, 0, none⟩) 26 26, .slice (some ⟨h, 0, none⟩) 26 26] 28))
  have RR := Lib.hid (duo ((duo_set r1 (.slice (some ⟨g, 0, none⟩) 26 26) (.slice (some ⟨h, 0, none⟩) 26 26)).alloc (Obj.cells #[.slice (some ⟨g, 0, none⟩) 26 26, .slice (some ⟨h, 0, none⟩) 26 26] 28)))
  simp [zero26] at c20
  clear h1 h2 h3 h4 h5 h6 r0 r1 hG hH UG U1
  go_wp2_with fail
  obtain ⟨c0, c1⟩ := RR.out
  refine bodyPost_ret (v := .agg #[.slice (some ⟨g, 0, none⟩) 26 26, .slice (some ⟨h, 0, none⟩) 26 26]) ?_ rfl (RetM.cast R.out (by decide))
  simp [results, Try.results37, go_sem, c0, c1]

set_option maxHeartbeats 3200000 in
theorem calls_any (w : World) : Calls Try.prog 26 #[] w (RetM w callsB zero26) := by
  go_enter Try.func26, Try.ntmps26
  go_wp2_with fail
  refine (list_any (some ⟨w.heap.size + 1, 0, none⟩) 11 [0, 0, 0, 0, 0, 0, 0, 0, 0, 1, 1] (w.heap.size + 2) _ (by refine SI.blk (t := 2) [0, 0, 0, 0, 0, 0, 0, 0, 0, 1, 1] ?_ (by simp); exact Blk.new' (w.alloc _) 2 _ (by simp)) (by simp) (by decide)).mono ?_
  rintro e w1 ⟨rfl, hb1, hB1⟩
  have b0 := ((Blk.new w 28 _).alloc _).up hb1
  rw [World.size_alloc, World.size_alloc] at hB1 ⊢
  have U1 : Up w w1 := Up.trans (((Below.refl _ w).alloc (Nat.le_refl _) _).alloc (by simp) _) hb1
  have m1 : w.heap.size + 2 < w1.heap.size := hB1.lt
  go_wp2_with fail
  refine (list_any none 0 [] 0 _ SI.nil_ (by simp) (by decide)).mono ?_
  rintro e w2 ⟨rfl, hb2, hB2⟩
  have U2 := Up.trans U1 hb2
  obtain ⟨h, hh⟩ : ∃ g, g = w1.heap.size := ⟨_, rfl⟩
  have r0 := b0.up hb2
  have hG : BI w2 (w.heap.size + 2) callsB := hB1.up hb2
  have hH : BI w2 h zero26 := by rw [hh]; exact hB2
  rw [← hh]
  obtain ⟨g, hg⟩ : ∃ g, g = w.heap.size + 2 := ⟨_, rfl⟩
  have hg' : w.heap.size + 1 + 1 = g := by omega
  rw [← hg] at hG
  try rw [hg']
  try rw [← hg]
  obtain ⟨d0, d1⟩ := duo r0
  have g0 := Blk.frozen r0 0
  have g1 := Blk.frozen r0 1
  have R := Lib.hid (free_ret hG hH (by omega) (by omega) (by omega) (Nat.le_refl _) r0 (by omega) (by omega) U2)
  have RR := Lib.hid (duo (duo_set r0 (.slice (some ⟨g, 0, none⟩) 26 26) (.slice (some ⟨h, 0, none⟩) 26 26)))
  clear hG hH r0 U2 U1 hb2 hb1 hB2 hB1 b0 hh hg hg' m1
  go_wp2_with fail
  obtain ⟨c0, c1⟩ := RR.out
  refine bodyPost_ret (v := .agg #[.slice (some ⟨g, 0, none⟩) 26 26, .slice (some ⟨h, 0, none⟩) 26 26]) ?_ rfl R.out
  simp [results, Try.results26, go_sem, c0, c1]

set_option maxHeartbeats 3200000 in
theorem ticks_any (w : World) : Calls Try.prog 30 #[] w (RetM w ticksB zero26) := by
  go_enter Try.func30, Try.ntmps30
  go_wp2_with fail
  refine (list_any (some ⟨w.heap.size + 1, 0, none⟩) 21 [0, 0, 0, 0, 0, 0, 0, 0, 0, 0, 0, 0, 0, 0, 0, 0, 0, 0, 0, 0, 1] (w.heap.size + 2) _ (by refine SI.blk (t := 2) [0, 0, 0, 0, 0, 0, 0, 0, 0, 0, 0, 0, 0, 0, 0, 0, 0, 0, 0, 0, 1] ?_ (by simp); exact Blk.new' (w.alloc _) 2 _ (by simp)) (by simp) (by decide)).mono ?_
  rintro e w1 ⟨rfl, hb1, hB1⟩
  have b0 := ((Blk.new w 28 _).alloc _).up hb1
  rw [World.size_alloc, World.size_alloc] at hB1 ⊢
  have U1 : Up w w1 := Up.trans (((Below.refl _ w).alloc (Nat.le_refl _) _).alloc (by simp) _) hb1
  have m1 : w.heap.size + 2 < w1.heap.size := hB1.lt
  go_wp2_with fail
  refine (list_any none 0 [] 0 _ SI.nil_ (by simp) (by decide)).mono ?_
  rintro e w2 ⟨rfl, hb2, hB2⟩
  have U2 := Up.trans U1 hb2
  obtain ⟨h, hh⟩ : ∃ g, g = w1.heap.size := ⟨_, rfl⟩
  have r0 := b0.up hb2
  have hG : BI w2 (w.heap.size + 2) ticksB := hB1.up hb2
  have hH : BI w2 h zero26 := by rw [hh]; exact hB2
  rw [← hh]
  obtain ⟨g, hg⟩ : ∃ g, g = w.heap.size + 2 := ⟨_, rfl⟩
  have hg' : w.heap.size + 1 + 1 = g := by omega
  rw [← hg] at hG
  try rw [hg']
  try rw [← hg]
  obtain ⟨d0, d1⟩ := duo r0
  have g0 := Blk.frozen r0 0
  have g1 := Blk.frozen r0 1
  have R := Lib.hid (free_ret hG hH (by omega) (by omega) (by omega) (Nat.le_refl _) r0 (by omega) (by omega) U2)
  have RR := Lib.hid (duo (duo_set r0 (.slice (some ⟨g, 0, none⟩) 26 26) (.slice (some ⟨h, 0, none⟩) 26 26)))
  clear hG hH r0 U2 U1 hb2 hb1 hB2 hB1 b0 hh hg hg' m1
  go_wp2_with fail
  obtain ⟨c0, c1⟩ := RR.out
  refine bodyPost_ret (v := .agg #[.slice (some ⟨g, 0, none⟩) 26 26, .slice (some ⟨h, 0, none⟩) 26 26]) ?_ rfl R.out
  simp [results, Try.results30, go_sem, c0, c1]

set_option maxHeartbeats 3200000 in
theorem stackM_any (w : World) : Calls Try.prog 27 #[] w (RetM w stackB zero26) := by
  go_enter Try.func27, Try.ntmps27
  go_wp2_with fail
  refine (list_any (some ⟨w.heap.size + 1, 0, none⟩) 26 [0, 0, 0, 0, 0, 0, 0, 0, 0, 1, 1, -1, 0, 0, 0, 0, 0, 0, 0, 0, 0, 0, 0, 0, 0, -1] (w.heap.size + 2) _ (by refine SI.blk (t := 2) [0, 0, 0, 0, 0, 0, 0, 0, 0, 1, 1, -1, 0, 0, 0, 0, 0, 0, 0, 0, 0, 0, 0, 0, 0, -1] ?_ (by simp); exact Blk.new' (w.alloc _) 2 _ (by simp)) (by simp) (by decide)).mono ?_
  rintro e w1 ⟨rfl, hb1, hB1⟩
  have b0 := ((Blk.new w 28 _).alloc _).up hb1
  rw [World.size_alloc, World.size_alloc] at hB1 ⊢
  have U1 : Up w w1 := Up.trans (((Below.refl _ w).alloc (Nat.le_refl _) _).alloc (by simp) _) hb1
  have m1 : w.heap.size + 2 < w1.heap.size := hB1.lt
  go_wp2_with fail
  refine (list_any none 0 [] 0 _ SI.nil_ (by simp) (by decide)).mono ?_
  rintro e w2 ⟨rfl, hb2, hB2⟩
  have U2 := Up.trans U1 hb2
  obtain ⟨h, hh⟩ : ∃ g, g = w1.heap.size := ⟨_, rfl⟩
  have r0 := b0.up hb2
  have hG : BI w2 (w.heap.size + 2) stackB := hB1.up hb2
  have hH : BI w2 h zero26 := by rw [hh]; exact hB2
  rw [← hh]
  obtain ⟨g, hg⟩ : ∃ g, g = w.heap.size + 2 := ⟨_, rfl⟩
  have hg' : w.heap.size + 1 + 1 = g := by omega
  rw [← hg] at hG
  try rw [hg']
  try rw [← hg]
  obtain ⟨d0, d1⟩ := duo r0
  have g0 := Blk.frozen r0 0
  have g1 := Blk.frozen r0 1
  have R := Lib.hid (free_ret hG hH (by omega) (by omega) (by omega) (Nat.le_refl _) r0 (by omega) (by omega) U2)
  have RR := Lib.hid (duo (duo_set r0 (.slice (some ⟨g, 0, none⟩) 26 26) (.slice (some ⟨h, 0, none⟩) 26 26)))
  clear hG hH r0 U2 U1 hb2 hb1 hB2 hB1 b0 hh hg hg' m1
  go_wp2_with fail
  obtain ⟨c0, c1⟩ := RR.out
  refine bodyPost_ret (v := .agg #[.slice (some ⟨g, 0, none⟩) 26 26, .slice (some ⟨h, 0, none⟩) 26 26]) ?_ rfl R.out
  simp [results, Try.results27, go_sem, c0, c1]

set_option maxHeartbeats 3200000 in
theorem heap_any (w : World) : Calls Try.prog 28 #[] w (RetM w heapB heapF) := by
  go_enter Try.func28, Try.ntmps28
  go_wp2_with fail
  refine (list_any (some ⟨w.heap.size + 1, 0, none⟩) 18 [0, 0, 1, 1, 0, 0, 0, 0, 0, 0, 0, 0, 1, 1, 0, 0, 0, 2] (w.heap.size + 2) _ (by refine SI.blk (t := 2) [0, 0, 1, 1, 0, 0, 0, 0, 0, 0, 0, 0, 1, 1, 0, 0, 0, 2] ?_ (by simp); exact Blk.new' (w.alloc _) 2 _ (by simp)) (by simp) (by decide)).mono ?_
  rintro e w1 ⟨rfl, hb1, hB1⟩
  have b0 := ((Blk.new w 28 _).alloc _).up hb1
  rw [World.size_alloc, World.size_alloc] at hB1 ⊢
  have U1 : Up w w1 := Up.trans (((Below.refl _ w).alloc (Nat.le_refl _) _).alloc (by simp) _) hb1
  have m1 : w.heap.size + 2 < w1.heap.size := hB1.lt
  go_wp2_with fail
  refine (list_any (some ⟨w1.heap.size, 0, none⟩) 14 [0, 0, 1, 1, 0, 0, 0, 0, 0, 0, 0, 0, 1, 1] (w1.heap.size + 1) _ (by refine SI.blk (t := 2) [0, 0, 1, 1, 0, 0, 0, 0, 0, 0, 0, 0, 1, 1] ?_ (by omega); exact Blk.new _ 2 _) (by simp) (by decide)).mono ?_
  rintro e w2 ⟨rfl, hb2', hB2⟩
  have hb2 := Up.trans ((Below.refl _ w1).alloc (Nat.le_refl _) _) hb2'
  have U2 := Up.trans U1 hb2
  rw [World.size_alloc] at hB2 ⊢
  obtain ⟨h, hh⟩ : ∃ g, g = w1.heap.size + 1 := ⟨_, rfl⟩
  have r0 := b0.up hb2
  have hG : BI w2 (w.heap.size + 2) heapB := hB1.up hb2
  have hH : BI w2 h heapF := by rw [hh]; exact hB2
  rw [← hh]
  obtain ⟨g, hg⟩ : ∃ g, g = w.heap.size + 2 := ⟨_, rfl⟩
  have hg' : w.heap.size + 1 + 1 = g := by omega
  rw [← hg] at hG
  try rw [hg']
  try rw [← hg]
  obtain ⟨d0, d1⟩ := duo r0
  have g0 := Blk.frozen r0 0
  have g1 := Blk.frozen r0 1
  have R := Lib.hid (free_ret hG hH (by omega) (by omega) (by omega) (Nat.le_refl _) r0 (by omega) (by omega) U2)
  have RR := Lib.hid (duo (duo_set r0 (.slice (some ⟨g, 0, none⟩) 26 26) (.slice (some ⟨h, 0, none⟩) 26 26)))
  clear hG hH r0 U2 U1 hb2 hb1 hB2 hB1 b0 hh hg hg' m1
  go_wp2_with fail
  obtain ⟨c0, c1⟩ := RR.out
  refine bodyPost_ret (v := .agg #[.slice (some ⟨g, 0, none⟩) 26 26, .slice (some ⟨h, 0, none⟩) 26 26]) ?_ rfl R.out
  simp [results, Try.results28, go_sem, c0, c1]

end Go.Proofs.Ytnaeabkknmoaeaa
