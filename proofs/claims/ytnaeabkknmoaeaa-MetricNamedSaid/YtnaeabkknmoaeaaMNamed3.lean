/-
  The contracts of the named metrics that go by loops.
-/
import Derived.Test.YtnaeabkknmoaeaaMNamed2
namespace Go.Proofs.Ytnaeabkknmoaeaa
open Go.RowKit

def garbageB : List Int := [0, 0, 1, 1, -1, -1, 0, 0, 0, 0, 0, 0, 1, 1, 0, 0, 0, 2, 0, 0, 0, 0, 0, 0, 0, 0]
def garbageF : List Int := [0, 0, 1, 1, -1, -1, 0, 0, 0, 0, 0, 0, 1, 1, 0, 0, 0, 0, 0, 0, 0, 0, 0, 0, 0, 0]
theorem RetM.cast2 {w0 : World} {b f b' f' : List Int} {e : Ending} {w' : World} (h : RetM w0 b f e w') (hb : b = b') (hf : f = f') : RetM w0 b' f' e w' := hf ▸ hb ▸ h
theorem Fr.alloc {w0 w : World} {q r g h : Nat} {b f : List Int} (F : Fr w0 w q r g h b f) (o : Obj) : Fr w0 (w.alloc o) q r g h b f :=
  ⟨F.bq.alloc o, F.br.alloc o, Blk.alloc F.bg o, Blk.alloc F.bh o, F.qr, F.qg, F.qh, F.rg, F.rh, F.gh, F.q0, F.r0, F.g0, F.h0, F.up.alloc F.up.size o⟩

def rhB : Nat → List Int
  | 0 => zero26
  | 1 => (zero26.set 2 (1))
  | 2 => ((zero26.set 2 (1)).set 3 (1))
  | 3 => (((zero26.set 2 (1)).set 3 (1)).set 12 (1))
  | _ => ((((zero26.set 2 (1)).set 3 (1)).set 12 (1)).set 13 (1))
def rhF : Nat → List Int
  | 0 => zero26
  | 1 => (zero26.set 2 (1))
  | 2 => ((zero26.set 2 (1)).set 3 (1))
  | 3 => (((zero26.set 2 (1)).set 3 (1)).set 12 (1))
  | _ => ((((zero26.set 2 (1)).set 3 (1)).set 12 (1)).set 13 (1))

set_option maxRecDepth 100000 in
set_option maxHeartbeats 6400000 in
theorem refHeap_any (w : World) : Calls Try.prog 35 #[] w (RetM w heapB heapF) := by
  go_enter Try.func35, Try.ntmps35
  go_wp2_with fail
  refine (refFree_any _).mono ?_
  rintro e w1 ⟨g, h, rfl, h1, h2, h3, h4, h5, h6⟩
  have F0 : Fr _ _ _ _ g h (rhB 0) (rhF 0) := Fr.start h1 h2 h3 h4 h5 h6
  go_wp2_with fail
  obtain ⟨w2, hw2⟩ : ∃ w2, w2 = (w1.alloc (Obj.cells #[.slice (some ⟨g, 0, none⟩) 26 26, .slice (some ⟨h, 0, none⟩) 26 26] 28)).alloc (Obj.cells #[.int .i64 2, .int .i64 3, .int .i64 12, .int .i64 13] 3) := ⟨_, rfl⟩
  have F1 : Fr w w2 w.heap.size w1.heap.size g h (rhB 0) (rhF 0) := by rw [hw2]; exact F0.alloc _
  have L1 : Blk w2 (w1.heap.size + 1) 3 #[.int .i64 2, .int .i64 3, .int .i64 12, .int .i64 13] := by rw [hw2]; exact Blk.new' _ 3 _ (by simp)
  have lg : w1.heap.size + 1 ≠ g := by have := h1.lt; omega
  have lh : w1.heap.size + 1 ≠ h := by have := h2.lt; omega
  obtain ⟨l, hl⟩ : ∃ l, l = w1.heap.size + 1 := ⟨_, rfl⟩
  rw [← hl] at L1 lg lh
  try rw [← hl]
  obtain ⟨r, hr⟩ : ∃ r, r = w1.heap.size := ⟨_, rfl⟩
  obtain ⟨q, hq⟩ : ∃ r, r = w.heap.size := ⟨_, rfl⟩
  rw [← hr, ← hq] at F1
  rw [← hw2, ← hr, ← hq]
  clear hw2 hr hq h1 h2 h3 h4 h5 h6 F0 hl
  go_loopw [7] (fun sv wr => ∃ k : Nat, k ≤ 4 ∧ sv = .int .i64 k ∧ Fr w wr q r g h (rhB k) (rhF k) ∧ Blk wr l 3 #[.int .i64 2, .int .i64 3, .int .i64 12, .int .i64 13]) (fun sv _ => 4 - (intOf sv).toNat)
  case atStart => exact ⟨0, by omega, rfl, F1, L1⟩
  case round =>
    obtain ⟨k, hk, rfl, F, L⟩ := hrel
    clear F1 L1
    rcases (show k = 0 ∨ k = 1 ∨ k = 2 ∨ k = 3 ∨ k = 4 by omega) with rfl | rfl | rfl | rfl | rfl
    · have cl := L.cell 0
      simp at cl
      have K0 := F.cells
      have c0 := F.bg.cell (k := 2) (by decide)
      have f0 := Blk.frozen F.bg 2
      have F2 := F.setB 2 (1)
      have K1 := F2.cells
      have c1 := F2.bh.cell (k := 2) (by decide)
      have f1 := Blk.frozen F2.bh 2
      have F3 := F2.setF 2 (1)
      have K2 := F3.cells
      have LL := Lib.hid (Blk.far (p := ⟨h, 2, none⟩) (Blk.far (p := ⟨g, 2, none⟩) L (by simpa using lg) (.int .i64 (1))) (by simpa using lh) (.int .i64 (1)))
      have HF := Lib.hid F3
      obtain ⟨s0, s1⟩ := K0
      obtain ⟨y0, hy0⟩ : ∃ y, y = (rhB 0)[2]'(by decide) := ⟨_, rfl⟩
      rw [← hy0] at c0
      obtain ⟨y1, hy1⟩ : ∃ y, y = (rhF 0)[2]'(by decide) := ⟨_, rfl⟩
      rw [← hy1] at c1
      clear F F2 F3 L hy0 hy1
      go_wp2_with fail
      refine wp_region_noPanic ?_
      refine wp_region_sched (S := (fun wx => wx.cell? ⟨r, 0, none⟩ = some (.slice (some ⟨g, 0, none⟩) 26 26) ∧ wx.cell? ⟨r, 1, none⟩ = some (.slice (some ⟨h, 0, none⟩) 26 26))) [(0, false), (1, false), (2, false), (3, false), (4, false), (5, false), (6, false), (7, true), (8, false), (9, true)] (by kernel_rfl) (by as_aux_lemma => kernel_rfl) (by as_aux_lemma => kernel_rfl) (by as_aux_lemma => kernel_rfl) (fun _ _ _ _ _ h => h) ⟨s0, s1⟩ ?_
      intro O3 HO3
      refine wpSched_take (i := 0) (v := ?v3x1) (by as_aux_lemma => rw [HO3.out]; simp only [List.getElem?_toArray, List.getElem?_cons_zero]; rfl) (Or.inl ⟨(by rfl), ?y3x1⟩) ?r3x1
      case y3x1 => as_aux_lemma => intro wx hSx; (try dsimp only at hSx); go_simp; try with_reducible rfl
      try simp only [Act.put, List.setIfInBounds_toArray, List.set_cons_zero, List.set_cons_succ]
      refine wpSched_take (i := 1) (v := ?v3x2) (by as_aux_lemma => rw [HO3.out]; simp only [List.getElem?_toArray, List.getElem?_cons_succ, List.getElem?_cons_zero]; rfl) (Or.inl ⟨(by rfl), ?y3x2⟩) ?r3x2
      case y3x2 => as_aux_lemma => intro wx hSx; (try dsimp only at hSx); go_simp; try with_reducible rfl
      try simp only [Act.put, List.setIfInBounds_toArray, List.set_cons_zero, List.set_cons_succ]
      refine wpSched_take (i := 2) (v := ?v3x3) (by as_aux_lemma => rw [HO3.out]; simp only [List.getElem?_toArray, List.getElem?_cons_succ, List.getElem?_cons_zero]; rfl) (Or.inl ⟨(by rfl), ?y3x3⟩) ?r3x3
      case y3x3 => as_aux_lemma => intro wx hSx; (try dsimp only at hSx); go_simp; try with_reducible rfl
      try simp only [Act.put, List.setIfInBounds_toArray, List.set_cons_zero, List.set_cons_succ]
      refine wpSched_take (i := 3) (v := ?v3x4) (by as_aux_lemma => rw [HO3.out]; simp only [List.getElem?_toArray, List.getElem?_cons_succ, List.getElem?_cons_zero]; rfl) (Or.inl ⟨(by rfl), ?y3x4⟩) ?r3x4
      case y3x4 => as_aux_lemma => intro wx hSx; (try dsimp only at hSx); go_simp; try with_reducible rfl
      try simp only [Act.put, List.setIfInBounds_toArray, List.set_cons_zero, List.set_cons_succ]
      refine wpSched_take (i := 4) (v := ?v3x5) (by as_aux_lemma => rw [HO3.out]; simp only [List.getElem?_toArray, List.getElem?_cons_succ, List.getElem?_cons_zero]; rfl) (Or.inl ⟨(by rfl), ?y3x5⟩) ?r3x5
      case y3x5 => as_aux_lemma => intro wx hSx; (try dsimp only at hSx); go_simp; try with_reducible rfl
      try simp only [Act.put, List.setIfInBounds_toArray, List.set_cons_zero, List.set_cons_succ]
      refine wpSched_take (i := 5) (v := ?v3x6) (by as_aux_lemma => rw [HO3.out]; simp only [List.getElem?_toArray, List.getElem?_cons_succ, List.getElem?_cons_zero]; rfl) (Or.inl ⟨(by rfl), ?y3x6⟩) ?r3x6
      case y3x6 => as_aux_lemma => intro wx hSx; (try dsimp only at hSx); go_simp; try with_reducible rfl
      try simp only [Act.put, List.setIfInBounds_toArray, List.set_cons_zero, List.set_cons_succ]
      refine wpSched_take (i := 6) (v := ?v3x7) (by as_aux_lemma => rw [HO3.out]; simp only [List.getElem?_toArray, List.getElem?_cons_succ, List.getElem?_cons_zero]; rfl) (Or.inl ⟨(by rfl), ?y3x7⟩) ?r3x7
      case y3x7 => as_aux_lemma => intro wx hSx; (try dsimp only at hSx); go_simp; try with_reducible rfl
      try simp only [Act.put, List.setIfInBounds_toArray, List.set_cons_zero, List.set_cons_succ]
      refine wpSched_call (i := 7) (by as_aux_lemma => rw [HO3.out]; simp only [List.getElem?_toArray, List.getElem?_cons_succ, List.getElem?_cons_zero]; rfl) (by rfl) (fun K' hK => ?_)
      go_simp
      go_wp2_with fail
      refine hK.out _ _ K1 (fun _ => ?_)
      clear hK K'
      try simp only [Act.put, List.setIfInBounds_toArray, List.set_cons_zero, List.set_cons_succ]
      refine wpSched_take (i := 8) (v := ?v3x8) (by as_aux_lemma => rw [HO3.out]; simp only [List.getElem?_toArray, List.getElem?_cons_succ, List.getElem?_cons_zero]; rfl) (Or.inl ⟨(by rfl), ?y3x8⟩) ?r3x8
      case y3x8 => as_aux_lemma => intro wx hSx; (try dsimp only at hSx); go_simp; try with_reducible rfl
      try simp only [Act.put, List.setIfInBounds_toArray, List.set_cons_zero, List.set_cons_succ]
      refine wpSched_call (i := 9) (by as_aux_lemma => rw [HO3.out]; simp only [List.getElem?_toArray, List.getElem?_cons_succ, List.getElem?_cons_zero]; rfl) (by rfl) (fun K' hK => ?_)
      go_simp
      go_wp2_with fail
      refine hK.out _ _ K2 (fun _ => ?_)
      clear hK K'
      try simp only [Act.put, List.setIfInBounds_toArray, List.set_cons_zero, List.set_cons_succ]
      refine wpSched_end (NoPanic.normal ?_)
      clear HO3 O3
      go_wp2_with fail
      go_roundw
      case rel => exact ⟨0 + 1, by omega, by go_num, HF.out.drew, LL.out.drew⟩
      case measure => simp [intOf]
    · have cl := L.cell 1
      simp at cl
      have K0 := F.cells
      have c0 := F.bg.cell (k := 3) (by decide)
      have f0 := Blk.frozen F.bg 3
      have F2 := F.setB 3 (1)
      have K1 := F2.cells
      have c1 := F2.bh.cell (k := 3) (by decide)
      have f1 := Blk.frozen F2.bh 3
      have F3 := F2.setF 3 (1)
      have K2 := F3.cells
      have LL := Lib.hid (Blk.far (p := ⟨h, 3, none⟩) (Blk.far (p := ⟨g, 3, none⟩) L (by simpa using lg) (.int .i64 (1))) (by simpa using lh) (.int .i64 (1)))
      have HF := Lib.hid F3
      obtain ⟨s0, s1⟩ := K0
      obtain ⟨y0, hy0⟩ : ∃ y, y = (rhB 1)[3]'(by decide) := ⟨_, rfl⟩
      rw [← hy0] at c0
      obtain ⟨y1, hy1⟩ : ∃ y, y = (rhF 1)[3]'(by decide) := ⟨_, rfl⟩
      rw [← hy1] at c1
      clear F F2 F3 L hy0 hy1
      go_wp2_with fail
      refine wp_region_noPanic ?_
      refine wp_region_sched (S := (fun wx => wx.cell? ⟨r, 0, none⟩ = some (.slice (some ⟨g, 0, none⟩) 26 26) ∧ wx.cell? ⟨r, 1, none⟩ = some (.slice (some ⟨h, 0, none⟩) 26 26))) [(0, false), (1, false), (2, false), (3, false), (4, false), (5, false), (6, false), (7, true), (8, false), (9, true)] (by kernel_rfl) (by as_aux_lemma => kernel_rfl) (by as_aux_lemma => kernel_rfl) (by as_aux_lemma => kernel_rfl) (fun _ _ _ _ _ h => h) ⟨s0, s1⟩ ?_
      intro O4 HO4
      refine wpSched_take (i := 0) (v := ?v4x1) (by as_aux_lemma => rw [HO4.out]; simp only [List.getElem?_toArray, List.getElem?_cons_zero]; rfl) (Or.inl ⟨(by rfl), ?y4x1⟩) ?r4x1
      case y4x1 => as_aux_lemma => intro wx hSx; (try dsimp only at hSx); go_simp; try with_reducible rfl
      try simp only [Act.put, List.setIfInBounds_toArray, List.set_cons_zero, List.set_cons_succ]
      refine wpSched_take (i := 1) (v := ?v4x2) (by as_aux_lemma => rw [HO4.out]; simp only [List.getElem?_toArray, List.getElem?_cons_succ, List.getElem?_cons_zero]; rfl) (Or.inl ⟨(by rfl), ?y4x2⟩) ?r4x2
      case y4x2 => as_aux_lemma => intro wx hSx; (try dsimp only at hSx); go_simp; try with_reducible rfl
      try simp only [Act.put, List.setIfInBounds_toArray, List.set_cons_zero, List.set_cons_succ]
      refine wpSched_take (i := 2) (v := ?v4x3) (by as_aux_lemma => rw [HO4.out]; simp only [List.getElem?_toArray, List.getElem?_cons_succ, List.getElem?_cons_zero]; rfl) (Or.inl ⟨(by rfl), ?y4x3⟩) ?r4x3
      case y4x3 => as_aux_lemma => intro wx hSx; (try dsimp only at hSx); go_simp; try with_reducible rfl
      try simp only [Act.put, List.setIfInBounds_toArray, List.set_cons_zero, List.set_cons_succ]
      refine wpSched_take (i := 3) (v := ?v4x4) (by as_aux_lemma => rw [HO4.out]; simp only [List.getElem?_toArray, List.getElem?_cons_succ, List.getElem?_cons_zero]; rfl) (Or.inl ⟨(by rfl), ?y4x4⟩) ?r4x4
      case y4x4 => as_aux_lemma => intro wx hSx; (try dsimp only at hSx); go_simp; try with_reducible rfl
      try simp only [Act.put, List.setIfInBounds_toArray, List.set_cons_zero, List.set_cons_succ]
      refine wpSched_take (i := 4) (v := ?v4x5) (by as_aux_lemma => rw [HO4.out]; simp only [List.getElem?_toArray, List.getElem?_cons_succ, List.getElem?_cons_zero]; rfl) (Or.inl ⟨(by rfl), ?y4x5⟩) ?r4x5
      case y4x5 => as_aux_lemma => intro wx hSx; (try dsimp only at hSx); go_simp; try with_reducible rfl
      try simp only [Act.put, List.setIfInBounds_toArray, List.set_cons_zero, List.set_cons_succ]
      refine wpSched_take (i := 5) (v := ?v4x6) (by as_aux_lemma => rw [HO4.out]; simp only [List.getElem?_toArray, List.getElem?_cons_succ, List.getElem?_cons_zero]; rfl) (Or.inl ⟨(by rfl), ?y4x6⟩) ?r4x6
      case y4x6 => as_aux_lemma => intro wx hSx; (try dsimp only at hSx); go_simp; try with_reducible rfl
      try simp only [Act.put, List.setIfInBounds_toArray, List.set_cons_zero, List.set_cons_succ]
      refine wpSched_take (i := 6) (v := ?v4x7) (by as_aux_lemma => rw [HO4.out]; simp only [List.getElem?_toArray, List.getElem?_cons_succ, List.getElem?_cons_zero]; rfl) (Or.inl ⟨(by rfl), ?y4x7⟩) ?r4x7
      case y4x7 => as_aux_lemma => intro wx hSx; (try dsimp only at hSx); go_simp; try with_reducible rfl
      try simp only [Act.put, List.setIfInBounds_toArray, List.set_cons_zero, List.set_cons_succ]
      refine wpSched_call (i := 7) (by as_aux_lemma => rw [HO4.out]; simp only [List.getElem?_toArray, List.getElem?_cons_succ, List.getElem?_cons_zero]; rfl) (by rfl) (fun K' hK => ?_)
      go_simp
      go_wp2_with fail
      refine hK.out _ _ K1 (fun _ => ?_)
      clear hK K'
      try simp only [Act.put, List.setIfInBounds_toArray, List.set_cons_zero, List.set_cons_succ]
      refine wpSched_take (i := 8) (v := ?v4x8) (by as_aux_lemma => rw [HO4.out]; simp only [List.getElem?_toArray, List.getElem?_cons_succ, List.getElem?_cons_zero]; rfl) (Or.inl ⟨(by rfl), ?y4x8⟩) ?r4x8
      case y4x8 => as_aux_lemma => intro wx hSx; (try dsimp only at hSx); go_simp; try with_reducible rfl
      try simp only [Act.put, List.setIfInBounds_toArray, List.set_cons_zero, List.set_cons_succ]
      refine wpSched_call (i := 9) (by as_aux_lemma => rw [HO4.out]; simp only [List.getElem?_toArray, List.getElem?_cons_succ, List.getElem?_cons_zero]; rfl) (by rfl) (fun K' hK => ?_)
      go_simp
      go_wp2_with fail
      refine hK.out _ _ K2 (fun _ => ?_)
      clear hK K'
      try simp only [Act.put, List.setIfInBounds_toArray, List.set_cons_zero, List.set_cons_succ]
      refine wpSched_end (NoPanic.normal ?_)
      clear HO4 O4
      go_wp2_with fail
      go_roundw
      case rel => exact ⟨1 + 1, by omega, by go_num, HF.out.drew, LL.out.drew⟩
      case measure => simp [intOf]
    · have cl := L.cell 2
      simp at cl
      have K0 := F.cells
      have c0 := F.bg.cell (k := 12) (by decide)
      have f0 := Blk.frozen F.bg 12
      have F2 := F.setB 12 (1)
      have K1 := F2.cells
      have c1 := F2.bh.cell (k := 12) (by decide)
      have f1 := Blk.frozen F2.bh 12
      have F3 := F2.setF 12 (1)
      have K2 := F3.cells
      have LL := Lib.hid (Blk.far (p := ⟨h, 12, none⟩) (Blk.far (p := ⟨g, 12, none⟩) L (by simpa using lg) (.int .i64 (1))) (by simpa using lh) (.int .i64 (1)))
      have HF := Lib.hid F3
      obtain ⟨s0, s1⟩ := K0
      obtain ⟨y0, hy0⟩ : ∃ y, y = (rhB 2)[12]'(by decide) := ⟨_, rfl⟩
      rw [← hy0] at c0
      obtain ⟨y1, hy1⟩ : ∃ y, y = (rhF 2)[12]'(by decide) := ⟨_, rfl⟩
      rw [← hy1] at c1
      clear F F2 F3 L hy0 hy1
      go_wp2_with fail
      refine wp_region_noPanic ?_
      refine wp_region_sched (S := (fun wx => wx.cell? ⟨r, 0, none⟩ = some (.slice (some ⟨g, 0, none⟩) 26 26) ∧ wx.cell? ⟨r, 1, none⟩ = some (.slice (some ⟨h, 0, none⟩) 26 26))) [(0, false), (1, false), (2, false), (3, false), (4, false), (5, false), (6, false), (7, true), (8, false), (9, true)] (by kernel_rfl) (by as_aux_lemma => kernel_rfl) (by as_aux_lemma => kernel_rfl) (by as_aux_lemma => kernel_rfl) (fun _ _ _ _ _ h => h) ⟨s0, s1⟩ ?_
      intro O5 HO5
      refine wpSched_take (i := 0) (v := ?v5x1) (by as_aux_lemma => rw [HO5.out]; simp only [List.getElem?_toArray, List.getElem?_cons_zero]; rfl) (Or.inl ⟨(by rfl), ?y5x1⟩) ?r5x1
      case y5x1 => as_aux_lemma => intro wx hSx; (try dsimp only at hSx); go_simp; try with_reducible rfl
      try simp only [Act.put, List.setIfInBounds_toArray, List.set_cons_zero, List.set_cons_succ]
      refine wpSched_take (i := 1) (v := ?v5x2) (by as_aux_lemma => rw [HO5.out]; simp only [List.getElem?_toArray, List.getElem?_cons_succ, List.getElem?_cons_zero]; rfl) (Or.inl ⟨(by rfl), ?y5x2⟩) ?r5x2
      case y5x2 => as_aux_lemma => intro wx hSx; (try dsimp only at hSx); go_simp; try with_reducible rfl
      try simp only [Act.put, List.setIfInBounds_toArray, List.set_cons_zero, List.set_cons_succ]
      refine wpSched_take (i := 2) (v := ?v5x3) (by as_aux_lemma => rw [HO5.out]; simp only [List.getElem?_toArray, List.getElem?_cons_succ, List.getElem?_cons_zero]; rfl) (Or.inl ⟨(by rfl), ?y5x3⟩) ?r5x3
      case y5x3 => as_aux_lemma => intro wx hSx; (try dsimp only at hSx); go_simp; try with_reducible rfl
      try simp only [Act.put, List.setIfInBounds_toArray, List.set_cons_zero, List.set_cons_succ]
      refine wpSched_take (i := 3) (v := ?v5x4) (by as_aux_lemma => rw [HO5.out]; simp only [List.getElem?_toArray, List.getElem?_cons_succ, List.getElem?_cons_zero]; rfl) (Or.inl ⟨(by rfl), ?y5x4⟩) ?r5x4
      case y5x4 => as_aux_lemma => intro wx hSx; (try dsimp only at hSx); go_simp; try with_reducible rfl
      try simp only [Act.put, List.setIfInBounds_toArray, List.set_cons_zero, List.set_cons_succ]
      refine wpSched_take (i := 4) (v := ?v5x5) (by as_aux_lemma => rw [HO5.out]; simp only [List.getElem?_toArray, List.getElem?_cons_succ, List.getElem?_cons_zero]; rfl) (Or.inl ⟨(by rfl), ?y5x5⟩) ?r5x5
      case y5x5 => as_aux_lemma => intro wx hSx; (try dsimp only at hSx); go_simp; try with_reducible rfl
      try simp only [Act.put, List.setIfInBounds_toArray, List.set_cons_zero, List.set_cons_succ]
      refine wpSched_take (i := 5) (v := ?v5x6) (by as_aux_lemma => rw [HO5.out]; simp only [List.getElem?_toArray, List.getElem?_cons_succ, List.getElem?_cons_zero]; rfl) (Or.inl ⟨(by rfl), ?y5x6⟩) ?r5x6
      case y5x6 => as_aux_lemma => intro wx hSx; (try dsimp only at hSx); go_simp; try with_reducible rfl
      try simp only [Act.put, List.setIfInBounds_toArray, List.set_cons_zero, List.set_cons_succ]
      refine wpSched_take (i := 6) (v := ?v5x7) (by as_aux_lemma => rw [HO5.out]; simp only [List.getElem?_toArray, List.getElem?_cons_succ, List.getElem?_cons_zero]; rfl) (Or.inl ⟨(by rfl), ?y5x7⟩) ?r5x7
      case y5x7 => as_aux_lemma => intro wx hSx; (try dsimp only at hSx); go_simp; try with_reducible rfl
      try simp only [Act.put, List.setIfInBounds_toArray, List.set_cons_zero, List.set_cons_succ]
      refine wpSched_call (i := 7) (by as_aux_lemma => rw [HO5.out]; simp only [List.getElem?_toArray, List.getElem?_cons_succ, List.getElem?_cons_zero]; rfl) (by rfl) (fun K' hK => ?_)
      go_simp
      go_wp2_with fail
      refine hK.out _ _ K1 (fun _ => ?_)
      clear hK K'
      try simp only [Act.put, List.setIfInBounds_toArray, List.set_cons_zero, List.set_cons_succ]
      refine wpSched_take (i := 8) (v := ?v5x8) (by as_aux_lemma => rw [HO5.out]; simp only [List.getElem?_toArray, List.getElem?_cons_succ, List.getElem?_cons_zero]; rfl) (Or.inl ⟨(by rfl), ?y5x8⟩) ?r5x8
      case y5x8 => as_aux_lemma => intro wx hSx; (try dsimp only at hSx); go_simp; try with_reducible rfl
      try simp only [Act.put, List.setIfInBounds_toArray, List.set_cons_zero, List.set_cons_succ]
      refine wpSched_call (i := 9) (by as_aux_lemma => rw [HO5.out]; simp only [List.getElem?_toArray, List.getElem?_cons_succ, List.getElem?_cons_zero]; rfl) (by rfl) (fun K' hK => ?_)
      go_simp
      go_wp2_with fail
      refine hK.out _ _ K2 (fun _ => ?_)
      clear hK K'
      try simp only [Act.put, List.setIfInBounds_toArray, List.set_cons_zero, List.set_cons_succ]
      refine wpSched_end (NoPanic.normal ?_)
      clear HO5 O5
      go_wp2_with fail
      go_roundw
      case rel => exact ⟨2 + 1, by omega, by go_num, HF.out.drew, LL.out.drew⟩
      case measure => simp [intOf]
    · have cl := L.cell 3
      simp at cl
      have K0 := F.cells
      have c0 := F.bg.cell (k := 13) (by decide)
      have f0 := Blk.frozen F.bg 13
      have F2 := F.setB 13 (1)
      have K1 := F2.cells
      have c1 := F2.bh.cell (k := 13) (by decide)
      have f1 := Blk.frozen F2.bh 13
      have F3 := F2.setF 13 (1)
      have K2 := F3.cells
      have LL := Lib.hid (Blk.far (p := ⟨h, 13, none⟩) (Blk.far (p := ⟨g, 13, none⟩) L (by simpa using lg) (.int .i64 (1))) (by simpa using lh) (.int .i64 (1)))
      have HF := Lib.hid F3
      obtain ⟨s0, s1⟩ := K0
      obtain ⟨y0, hy0⟩ : ∃ y, y = (rhB 3)[13]'(by decide) := ⟨_, rfl⟩
      rw [← hy0] at c0
      obtain ⟨y1, hy1⟩ : ∃ y, y = (rhF 3)[13]'(by decide) := ⟨_, rfl⟩
      rw [← hy1] at c1
      clear F F2 F3 L hy0 hy1
      go_wp2_with fail
      refine wp_region_noPanic ?_
      refine wp_region_sched (S := (fun wx => wx.cell? ⟨r, 0, none⟩ = some (.slice (some ⟨g, 0, none⟩) 26 26) ∧ wx.cell? ⟨r, 1, none⟩ = some (.slice (some ⟨h, 0, none⟩) 26 26))) [(0, false), (1, false), (2, false), (3, false), (4, false), (5, false), (6, false), (7, true), (8, false), (9, true)] (by kernel_rfl) (by as_aux_lemma => kernel_rfl) (by as_aux_lemma => kernel_rfl) (by as_aux_lemma => kernel_rfl) (fun _ _ _ _ _ h => h) ⟨s0, s1⟩ ?_
      intro O6 HO6
      refine wpSched_take (i := 0) (v := ?v6x1) (by as_aux_lemma => rw [HO6.out]; simp only [List.getElem?_toArray, List.getElem?_cons_zero]; rfl) (Or.inl ⟨(by rfl), ?y6x1⟩) ?r6x1
      case y6x1 => as_aux_lemma => intro wx hSx; (try dsimp only at hSx); go_simp; try with_reducible rfl
      try simp only [Act.put, List.setIfInBounds_toArray, List.set_cons_zero, List.set_cons_succ]
      refine wpSched_take (i := 1) (v := ?v6x2) (by as_aux_lemma => rw [HO6.out]; simp only [List.getElem?_toArray, List.getElem?_cons_succ, List.getElem?_cons_zero]; rfl) (Or.inl ⟨(by rfl), ?y6x2⟩) ?r6x2
      case y6x2 => as_aux_lemma => intro wx hSx; (try dsimp only at hSx); go_simp; try with_reducible rfl
      try simp only [Act.put, List.setIfInBounds_toArray, List.set_cons_zero, List.set_cons_succ]
      refine wpSched_take (i := 2) (v := ?v6x3) (by as_aux_lemma => rw [HO6.out]; simp only [List.getElem?_toArray, List.getElem?_cons_succ, List.getElem?_cons_zero]; rfl) (Or.inl ⟨(by rfl), ?y6x3⟩) ?r6x3
      case y6x3 => as_aux_lemma => intro wx hSx; (try dsimp only at hSx); go_simp; try with_reducible rfl
      try simp only [Act.put, List.setIfInBounds_toArray, List.set_cons_zero, List.set_cons_succ]
      refine wpSched_take (i := 3) (v := ?v6x4) (by as_aux_lemma => rw [HO6.out]; simp only [List.getElem?_toArray, List.getElem?_cons_succ, List.getElem?_cons_zero]; rfl) (Or.inl ⟨(by rfl), ?y6x4⟩) ?r6x4
      case y6x4 => as_aux_lemma => intro wx hSx; (try dsimp only at hSx); go_simp; try with_reducible rfl
      try simp only [Act.put, List.setIfInBounds_toArray, List.set_cons_zero, List.set_cons_succ]
      refine wpSched_take (i := 4) (v := ?v6x5) (by as_aux_lemma => rw [HO6.out]; simp only [List.getElem?_toArray, List.getElem?_cons_succ, List.getElem?_cons_zero]; rfl) (Or.inl ⟨(by rfl), ?y6x5⟩) ?r6x5
      case y6x5 => as_aux_lemma => intro wx hSx; (try dsimp only at hSx); go_simp; try with_reducible rfl
      try simp only [Act.put, List.setIfInBounds_toArray, List.set_cons_zero, List.set_cons_succ]
      refine wpSched_take (i := 5) (v := ?v6x6) (by as_aux_lemma => rw [HO6.out]; simp only [List.getElem?_toArray, List.getElem?_cons_succ, List.getElem?_cons_zero]; rfl) (Or.inl ⟨(by rfl), ?y6x6⟩) ?r6x6
      case y6x6 => as_aux_lemma => intro wx hSx; (try dsimp only at hSx); go_simp; try with_reducible rfl
      try simp only [Act.put, List.setIfInBounds_toArray, List.set_cons_zero, List.set_cons_succ]
      refine wpSched_take (i := 6) (v := ?v6x7) (by as_aux_lemma => rw [HO6.out]; simp only [List.getElem?_toArray, List.getElem?_cons_succ, List.getElem?_cons_zero]; rfl) (Or.inl ⟨(by rfl), ?y6x7⟩) ?r6x7
      case y6x7 => as_aux_lemma => intro wx hSx; (try dsimp only at hSx); go_simp; try with_reducible rfl
      try simp only [Act.put, List.setIfInBounds_toArray, List.set_cons_zero, List.set_cons_succ]
      refine wpSched_call (i := 7) (by as_aux_lemma => rw [HO6.out]; simp only [List.getElem?_toArray, List.getElem?_cons_succ, List.getElem?_cons_zero]; rfl) (by rfl) (fun K' hK => ?_)
      go_simp
      go_wp2_with fail
      refine hK.out _ _ K1 (fun _ => ?_)
      clear hK K'
      try simp only [Act.put, List.setIfInBounds_toArray, List.set_cons_zero, List.set_cons_succ]
      refine wpSched_take (i := 8) (v := ?v6x8) (by as_aux_lemma => rw [HO6.out]; simp only [List.getElem?_toArray, List.getElem?_cons_succ, List.getElem?_cons_zero]; rfl) (Or.inl ⟨(by rfl), ?y6x8⟩) ?r6x8
      case y6x8 => as_aux_lemma => intro wx hSx; (try dsimp only at hSx); go_simp; try with_reducible rfl
      try simp only [Act.put, List.setIfInBounds_toArray, List.set_cons_zero, List.set_cons_succ]
      refine wpSched_call (i := 9) (by as_aux_lemma => rw [HO6.out]; simp only [List.getElem?_toArray, List.getElem?_cons_succ, List.getElem?_cons_zero]; rfl) (by rfl) (fun K' hK => ?_)
      go_simp
      go_wp2_with fail
      refine hK.out _ _ K2 (fun _ => ?_)
      clear hK K'
      try simp only [Act.put, List.setIfInBounds_toArray, List.set_cons_zero, List.set_cons_succ]
      refine wpSched_end (NoPanic.normal ?_)
      clear HO6 O6
      go_wp2_with fail
      go_roundw
      case rel => exact ⟨3 + 1, by omega, by go_num, HF.out.drew, LL.out.drew⟩
      case measure => simp [intOf]
    · skip
      obtain ⟨s0, s1⟩ := F.cells
      obtain ⟨d0, d1⟩ := duo F.bq
      have g0 := Blk.frozen F.bq 0
      have g1 := Blk.frozen F.bq 1
      have c0 := F.bg.cell (k := 17) (by decide)
      obtain ⟨y0, hy0⟩ : ∃ y, y = (rhB 4)[17]'(by decide) := ⟨_, rfl⟩
      rw [← hy0] at c0
      have f0 := Blk.frozen F.bg 17
      have F2 := F.setB 17 (2)
      have qg := F.qg
      have rg := F.rg
      obtain ⟨x0, x1⟩ := F2.cells
      obtain ⟨v0, v1⟩ := duo F2.bq
      have HF := Lib.hid F2
      clear F F2 L hy0
      go_wp2_with fail
      obtain ⟨c0, c1⟩ := HF.out.res
      refine bodyPost_ret (v := .agg #[.slice (some ⟨g, 0, none⟩) 26 26, .slice (some ⟨h, 0, none⟩) 26 26]) ?_ rfl (RetM.cast2 HF.out.out (by decide) (by decide))
      simp [results, Try.results35, go_sem, c0, c1]

def gbB : Nat → List Int
  | 0 => heapB
  | 1 => (heapB.set 5 (-1))
  | _ => ((heapB.set 5 (-1)).set 4 (-1))
def gbF : Nat → List Int
  | 0 => heapF
  | 1 => (heapF.set 5 (-1))
  | _ => ((heapF.set 5 (-1)).set 4 (-1))

set_option maxRecDepth 100000 in
set_option maxHeartbeats 6400000 in
theorem garbage_any (w : World) : Calls Try.prog 29 #[] w (RetM w garbageB garbageF) := by
  go_enter Try.func29, Try.ntmps29
  go_wp2_with fail
  refine (heap_any _).mono ?_
  rintro e w1 ⟨g, h, rfl, h1, h2, h3, h4, h5, h6⟩
  have F0 : Fr _ _ _ _ g h (gbB 0) (gbF 0) := Fr.start h1 h2 h3 h4 h5 h6
  go_wp2_with fail
  obtain ⟨w2, hw2⟩ : ∃ w2, w2 = (w1.alloc (Obj.cells #[.slice (some ⟨g, 0, none⟩) 26 26, .slice (some ⟨h, 0, none⟩) 26 26] 28)).alloc (Obj.cells #[.int .i64 5, .int .i64 4] 3) := ⟨_, rfl⟩
  have F1 : Fr w w2 w.heap.size w1.heap.size g h (gbB 0) (gbF 0) := by rw [hw2]; exact F0.alloc _
  have L1 : Blk w2 (w1.heap.size + 1) 3 #[.int .i64 5, .int .i64 4] := by rw [hw2]; exact Blk.new' _ 3 _ (by simp)
  have lg : w1.heap.size + 1 ≠ g := by have := h1.lt; omega
  have lh : w1.heap.size + 1 ≠ h := by have := h2.lt; omega
  obtain ⟨l, hl⟩ : ∃ l, l = w1.heap.size + 1 := ⟨_, rfl⟩
  rw [← hl] at L1 lg lh
  try rw [← hl]
  obtain ⟨r, hr⟩ : ∃ r, r = w1.heap.size := ⟨_, rfl⟩
  obtain ⟨q, hq⟩ : ∃ r, r = w.heap.size := ⟨_, rfl⟩
  rw [← hr, ← hq] at F1
  rw [← hw2, ← hr, ← hq]
  clear hw2 hr hq h1 h2 h3 h4 h5 h6 F0 hl
  go_loopw [7] (fun sv wr => ∃ k : Nat, k ≤ 2 ∧ sv = .int .i64 k ∧ Fr w wr q r g h (gbB k) (gbF k) ∧ Blk wr l 3 #[.int .i64 5, .int .i64 4]) (fun sv _ => 2 - (intOf sv).toNat)
  case atStart => exact ⟨0, by omega, rfl, F1, L1⟩
  case round =>
    obtain ⟨k, hk, rfl, F, L⟩ := hrel
    clear F1 L1
    rcases (show k = 0 ∨ k = 1 ∨ k = 2 by omega) with rfl | rfl | rfl
    · have cl := L.cell 0
      simp at cl
      have K0 := F.cells
      have c0 := F.bg.cell (k := 5) (by decide)
      have f0 := Blk.frozen F.bg 5
      have F2 := F.setB 5 (-1)
      have K1 := F2.cells
      have c1 := F2.bh.cell (k := 5) (by decide)
      have f1 := Blk.frozen F2.bh 5
      have F3 := F2.setF 5 (-1)
      have K2 := F3.cells
      have LL := Lib.hid (Blk.far (p := ⟨h, 5, none⟩) (Blk.far (p := ⟨g, 5, none⟩) L (by simpa using lg) (.int .i64 (-1))) (by simpa using lh) (.int .i64 (-1)))
      have HF := Lib.hid F3
      obtain ⟨s0, s1⟩ := K0
      obtain ⟨y0, hy0⟩ : ∃ y, y = (gbB 0)[5]'(by decide) := ⟨_, rfl⟩
      rw [← hy0] at c0
      obtain ⟨y1, hy1⟩ : ∃ y, y = (gbF 0)[5]'(by decide) := ⟨_, rfl⟩
      rw [← hy1] at c1
      clear F F2 F3 L hy0 hy1
      go_wp2_with fail
      refine wp_region_noPanic ?_
      refine wp_region_sched (S := (fun wx => wx.cell? ⟨r, 0, none⟩ = some (.slice (some ⟨g, 0, none⟩) 26 26) ∧ wx.cell? ⟨r, 1, none⟩ = some (.slice (some ⟨h, 0, none⟩) 26 26))) [(0, false), (1, false), (2, false), (3, false), (4, false), (5, false), (6, false), (7, true), (8, false), (9, true)] (by kernel_rfl) (by as_aux_lemma => kernel_rfl) (by as_aux_lemma => kernel_rfl) (by as_aux_lemma => kernel_rfl) (fun _ _ _ _ _ h => h) ⟨s0, s1⟩ ?_
      intro O7 HO7
      refine wpSched_take (i := 0) (v := ?v7x1) (by as_aux_lemma => rw [HO7.out]; simp only [List.getElem?_toArray, List.getElem?_cons_zero]; rfl) (Or.inl ⟨(by rfl), ?y7x1⟩) ?r7x1
      case y7x1 => as_aux_lemma => intro wx hSx; (try dsimp only at hSx); go_simp; try with_reducible rfl
      try simp only [Act.put, List.setIfInBounds_toArray, List.set_cons_zero, List.set_cons_succ]
      refine wpSched_take (i := 1) (v := ?v7x2) (by as_aux_lemma => rw [HO7.out]; simp only [List.getElem?_toArray, List.getElem?_cons_succ, List.getElem?_cons_zero]; rfl) (Or.inl ⟨(by rfl), ?y7x2⟩) ?r7x2
      case y7x2 => as_aux_lemma => intro wx hSx; (try dsimp only at hSx); go_simp; try with_reducible rfl
      try simp only [Act.put, List.setIfInBounds_toArray, List.set_cons_zero, List.set_cons_succ]
      refine wpSched_take (i := 2) (v := ?v7x3) (by as_aux_lemma => rw [HO7.out]; simp only [List.getElem?_toArray, List.getElem?_cons_succ, List.getElem?_cons_zero]; rfl) (Or.inl ⟨(by rfl), ?y7x3⟩) ?r7x3
      case y7x3 => as_aux_lemma => intro wx hSx; (try dsimp only at hSx); go_simp; try with_reducible rfl
      try simp only [Act.put, List.setIfInBounds_toArray, List.set_cons_zero, List.set_cons_succ]
      refine wpSched_take (i := 3) (v := ?v7x4) (by as_aux_lemma => rw [HO7.out]; simp only [List.getElem?_toArray, List.getElem?_cons_succ, List.getElem?_cons_zero]; rfl) (Or.inl ⟨(by rfl), ?y7x4⟩) ?r7x4
      case y7x4 => as_aux_lemma => intro wx hSx; (try dsimp only at hSx); go_simp; try with_reducible rfl
      try simp only [Act.put, List.setIfInBounds_toArray, List.set_cons_zero, List.set_cons_succ]
      refine wpSched_take (i := 4) (v := ?v7x5) (by as_aux_lemma => rw [HO7.out]; simp only [List.getElem?_toArray, List.getElem?_cons_succ, List.getElem?_cons_zero]; rfl) (Or.inl ⟨(by rfl), ?y7x5⟩) ?r7x5
      case y7x5 => as_aux_lemma => intro wx hSx; (try dsimp only at hSx); go_simp; try with_reducible rfl
      try simp only [Act.put, List.setIfInBounds_toArray, List.set_cons_zero, List.set_cons_succ]
      refine wpSched_take (i := 5) (v := ?v7x6) (by as_aux_lemma => rw [HO7.out]; simp only [List.getElem?_toArray, List.getElem?_cons_succ, List.getElem?_cons_zero]; rfl) (Or.inl ⟨(by rfl), ?y7x6⟩) ?r7x6
      case y7x6 => as_aux_lemma => intro wx hSx; (try dsimp only at hSx); go_simp; try with_reducible rfl
      try simp only [Act.put, List.setIfInBounds_toArray, List.set_cons_zero, List.set_cons_succ]
      refine wpSched_take (i := 6) (v := ?v7x7) (by as_aux_lemma => rw [HO7.out]; simp only [List.getElem?_toArray, List.getElem?_cons_succ, List.getElem?_cons_zero]; rfl) (Or.inl ⟨(by rfl), ?y7x7⟩) ?r7x7
      case y7x7 => as_aux_lemma => intro wx hSx; (try dsimp only at hSx); go_simp; try with_reducible rfl
      try simp only [Act.put, List.setIfInBounds_toArray, List.set_cons_zero, List.set_cons_succ]
      refine wpSched_call (i := 7) (by as_aux_lemma => rw [HO7.out]; simp only [List.getElem?_toArray, List.getElem?_cons_succ, List.getElem?_cons_zero]; rfl) (by rfl) (fun K' hK => ?_)
      go_simp
      go_wp2_with fail
      refine hK.out _ _ K1 (fun _ => ?_)
      clear hK K'
      try simp only [Act.put, List.setIfInBounds_toArray, List.set_cons_zero, List.set_cons_succ]
      refine wpSched_take (i := 8) (v := ?v7x8) (by as_aux_lemma => rw [HO7.out]; simp only [List.getElem?_toArray, List.getElem?_cons_succ, List.getElem?_cons_zero]; rfl) (Or.inl ⟨(by rfl), ?y7x8⟩) ?r7x8
      case y7x8 => as_aux_lemma => intro wx hSx; (try dsimp only at hSx); go_simp; try with_reducible rfl
      try simp only [Act.put, List.setIfInBounds_toArray, List.set_cons_zero, List.set_cons_succ]
      refine wpSched_call (i := 9) (by as_aux_lemma => rw [HO7.out]; simp only [List.getElem?_toArray, List.getElem?_cons_succ, List.getElem?_cons_zero]; rfl) (by rfl) (fun K' hK => ?_)
      go_simp
      go_wp2_with fail
      refine hK.out _ _ K2 (fun _ => ?_)
      clear hK K'
      try simp only [Act.put, List.setIfInBounds_toArray, List.set_cons_zero, List.set_cons_succ]
      refine wpSched_end (NoPanic.normal ?_)
      clear HO7 O7
      go_wp2_with fail
      go_roundw
      case rel => exact ⟨0 + 1, by omega, by go_num, HF.out.drew, LL.out.drew⟩
      case measure => simp [intOf]
    · have cl := L.cell 1
      simp at cl
      have K0 := F.cells
      have c0 := F.bg.cell (k := 4) (by decide)
      have f0 := Blk.frozen F.bg 4
      have F2 := F.setB 4 (-1)
      have K1 := F2.cells
      have c1 := F2.bh.cell (k := 4) (by decide)
      have f1 := Blk.frozen F2.bh 4
      have F3 := F2.setF 4 (-1)
      have K2 := F3.cells
      have LL := Lib.hid (Blk.far (p := ⟨h, 4, none⟩) (Blk.far (p := ⟨g, 4, none⟩) L (by simpa using lg) (.int .i64 (-1))) (by simpa using lh) (.int .i64 (-1)))
      have HF := Lib.hid F3
      obtain ⟨s0, s1⟩ := K0
      obtain ⟨y0, hy0⟩ : ∃ y, y = (gbB 1)[4]'(by decide) := ⟨_, rfl⟩
      rw [← hy0] at c0
      obtain ⟨y1, hy1⟩ : ∃ y, y = (gbF 1)[4]'(by decide) := ⟨_, rfl⟩
      rw [← hy1] at c1
      clear F F2 F3 L hy0 hy1
      go_wp2_with fail
      refine wp_region_noPanic ?_
      refine wp_region_sched (S := (fun wx => wx.cell? ⟨r, 0, none⟩ = some (.slice (some ⟨g, 0, none⟩) 26 26) ∧ wx.cell? ⟨r, 1, none⟩ = some (.slice (some ⟨h, 0, none⟩) 26 26))) [(0, false), (1, false), (2, false), (3, false), (4, false), (5, false), (6, false), (7, true), (8, false), (9, true)] (by kernel_rfl) (by as_aux_lemma => kernel_rfl) (by as_aux_lemma => kernel_rfl) (by as_aux_lemma => kernel_rfl) (fun _ _ _ _ _ h => h) ⟨s0, s1⟩ ?_
      intro O8 HO8
      refine wpSched_take (i := 0) (v := ?v8x1) (by as_aux_lemma => rw [HO8.out]; simp only [List.getElem?_toArray, List.getElem?_cons_zero]; rfl) (Or.inl ⟨(by rfl), ?y8x1⟩) ?r8x1
      case y8x1 => as_aux_lemma => intro wx hSx; (try dsimp only at hSx); go_simp; try with_reducible rfl
      try simp only [Act.put, List.setIfInBounds_toArray, List.set_cons_zero, List.set_cons_succ]
      refine wpSched_take (i := 1) (v := ?v8x2) (by as_aux_lemma => rw [HO8.out]; simp only [List.getElem?_toArray, List.getElem?_cons_succ, List.getElem?_cons_zero]; rfl) (Or.inl ⟨(by rfl), ?y8x2⟩) ?r8x2
      case y8x2 => as_aux_lemma => intro wx hSx; (try dsimp only at hSx); go_simp; try with_reducible rfl
      try simp only [Act.put, List.setIfInBounds_toArray, List.set_cons_zero, List.set_cons_succ]
      refine wpSched_take (i := 2) (v := ?v8x3) (by as_aux_lemma => rw [HO8.out]; simp only [List.getElem?_toArray, List.getElem?_cons_succ, List.getElem?_cons_zero]; rfl) (Or.inl ⟨(by rfl), ?y8x3⟩) ?r8x3
      case y8x3 => as_aux_lemma => intro wx hSx; (try dsimp only at hSx); go_simp; try with_reducible rfl
      try simp only [Act.put, List.setIfInBounds_toArray, List.set_cons_zero, List.set_cons_succ]
      refine wpSched_take (i := 3) (v := ?v8x4) (by as_aux_lemma => rw [HO8.out]; simp only [List.getElem?_toArray, List.getElem?_cons_succ, List.getElem?_cons_zero]; rfl) (Or.inl ⟨(by rfl), ?y8x4⟩) ?r8x4
      case y8x4 => as_aux_lemma => intro wx hSx; (try dsimp only at hSx); go_simp; try with_reducible rfl
      try simp only [Act.put, List.setIfInBounds_toArray, List.set_cons_zero, List.set_cons_succ]
      refine wpSched_take (i := 4) (v := ?v8x5) (by as_aux_lemma => rw [HO8.out]; simp only [List.getElem?_toArray, List.getElem?_cons_succ, List.getElem?_cons_zero]; rfl) (Or.inl ⟨(by rfl), ?y8x5⟩) ?r8x5
      case y8x5 => as_aux_lemma => intro wx hSx; (try dsimp only at hSx); go_simp; try with_reducible rfl
      try simp only [Act.put, List.setIfInBounds_toArray, List.set_cons_zero, List.set_cons_succ]
      refine wpSched_take (i := 5) (v := ?v8x6) (by as_aux_lemma => rw [HO8.out]; simp only [List.getElem?_toArray, List.getElem?_cons_succ, List.getElem?_cons_zero]; rfl) (Or.inl ⟨(by rfl), ?y8x6⟩) ?r8x6
      case y8x6 => as_aux_lemma => intro wx hSx; (try dsimp only at hSx); go_simp; try with_reducible rfl
      try simp only [Act.put, List.setIfInBounds_toArray, List.set_cons_zero, List.set_cons_succ]
      refine wpSched_take (i := 6) (v := ?v8x7) (by as_aux_lemma => rw [HO8.out]; simp only [List.getElem?_toArray, List.getElem?_cons_succ, List.getElem?_cons_zero]; rfl) (Or.inl ⟨(by rfl), ?y8x7⟩) ?r8x7
      case y8x7 => as_aux_lemma => intro wx hSx; (try dsimp only at hSx); go_simp; try with_reducible rfl
      try simp only [Act.put, List.setIfInBounds_toArray, List.set_cons_zero, List.set_cons_succ]
      refine wpSched_call (i := 7) (by as_aux_lemma => rw [HO8.out]; simp only [List.getElem?_toArray, List.getElem?_cons_succ, List.getElem?_cons_zero]; rfl) (by rfl) (fun K' hK => ?_)
      go_simp
      go_wp2_with fail
      refine hK.out _ _ K1 (fun _ => ?_)
      clear hK K'
      try simp only [Act.put, List.setIfInBounds_toArray, List.set_cons_zero, List.set_cons_succ]
      refine wpSched_take (i := 8) (v := ?v8x8) (by as_aux_lemma => rw [HO8.out]; simp only [List.getElem?_toArray, List.getElem?_cons_succ, List.getElem?_cons_zero]; rfl) (Or.inl ⟨(by rfl), ?y8x8⟩) ?r8x8
      case y8x8 => as_aux_lemma => intro wx hSx; (try dsimp only at hSx); go_simp; try with_reducible rfl
      try simp only [Act.put, List.setIfInBounds_toArray, List.set_cons_zero, List.set_cons_succ]
      refine wpSched_call (i := 9) (by as_aux_lemma => rw [HO8.out]; simp only [List.getElem?_toArray, List.getElem?_cons_succ, List.getElem?_cons_zero]; rfl) (by rfl) (fun K' hK => ?_)
      go_simp
      go_wp2_with fail
      refine hK.out _ _ K2 (fun _ => ?_)
      clear hK K'
      try simp only [Act.put, List.setIfInBounds_toArray, List.set_cons_zero, List.set_cons_succ]
      refine wpSched_end (NoPanic.normal ?_)
      clear HO8 O8
      go_wp2_with fail
      go_roundw
      case rel => exact ⟨1 + 1, by omega, by go_num, HF.out.drew, LL.out.drew⟩
      case measure => simp [intOf]
    · skip
      obtain ⟨s0, s1⟩ := F.cells
      obtain ⟨d0, d1⟩ := duo F.bq
      have g0 := Blk.frozen F.bq 0
      have g1 := Blk.frozen F.bq 1
      have HF := Lib.hid F
      clear F L
      go_wp2_with fail
      obtain ⟨c0, c1⟩ := HF.out.res
      refine bodyPost_ret (v := .agg #[.slice (some ⟨g, 0, none⟩) 26 26, .slice (some ⟨h, 0, none⟩) 26 26]) ?_ rfl (RetM.cast2 HF.out.out (by decide) (by decide))
      simp [results, Try.results29, go_sem, c0, c1]

def rgB : Nat → List Int
  | 0 => heapB
  | 1 => (heapB.set 5 (-1))
  | _ => ((heapB.set 5 (-1)).set 4 (-1))
def rgF : Nat → List Int
  | 0 => heapF
  | 1 => (heapF.set 5 (-1))
  | _ => ((heapF.set 5 (-1)).set 4 (-1))

set_option maxRecDepth 100000 in
set_option maxHeartbeats 6400000 in
theorem refGarbage_any (w : World) : Calls Try.prog 36 #[] w (RetM w garbageB garbageF) := by
  go_enter Try.func36, Try.ntmps36
  go_wp2_with fail
  refine (refHeap_any _).mono ?_
  rintro e w1 ⟨g, h, rfl, h1, h2, h3, h4, h5, h6⟩
  have F0 : Fr _ _ _ _ g h (rgB 0) (rgF 0) := Fr.start h1 h2 h3 h4 h5 h6
  go_wp2_with fail
  obtain ⟨w2, hw2⟩ : ∃ w2, w2 = (w1.alloc (Obj.cells #[.slice (some ⟨g, 0, none⟩) 26 26, .slice (some ⟨h, 0, none⟩) 26 26] 28)).alloc (Obj.cells #[.int .i64 5, .int .i64 4] 3) := ⟨_, rfl⟩
  have F1 : Fr w w2 w.heap.size w1.heap.size g h (rgB 0) (rgF 0) := by rw [hw2]; exact F0.alloc _
  have L1 : Blk w2 (w1.heap.size + 1) 3 #[.int .i64 5, .int .i64 4] := by rw [hw2]; exact Blk.new' _ 3 _ (by simp)
  have lg : w1.heap.size + 1 ≠ g := by have := h1.lt; omega
  have lh : w1.heap.size + 1 ≠ h := by have := h2.lt; omega
  obtain ⟨l, hl⟩ : ∃ l, l = w1.heap.size + 1 := ⟨_, rfl⟩
  rw [← hl] at L1 lg lh
  try rw [← hl]
  obtain ⟨r, hr⟩ : ∃ r, r = w1.heap.size := ⟨_, rfl⟩
  obtain ⟨q, hq⟩ : ∃ r, r = w.heap.size := ⟨_, rfl⟩
  rw [← hr, ← hq] at F1
  rw [← hw2, ← hr, ← hq]
  clear hw2 hr hq h1 h2 h3 h4 h5 h6 F0 hl
  go_loopw [7] (fun sv wr => ∃ k : Nat, k ≤ 2 ∧ sv = .int .i64 k ∧ Fr w wr q r g h (rgB k) (rgF k) ∧ Blk wr l 3 #[.int .i64 5, .int .i64 4]) (fun sv _ => 2 - (intOf sv).toNat)
  case atStart => exact ⟨0, by omega, rfl, F1, L1⟩
  case round =>
    obtain ⟨k, hk, rfl, F, L⟩ := hrel
    clear F1 L1
    rcases (show k = 0 ∨ k = 1 ∨ k = 2 by omega) with rfl | rfl | rfl
    · have cl := L.cell 0
      simp at cl
      have K0 := F.cells
      have c0 := F.bg.cell (k := 5) (by decide)
      have f0 := Blk.frozen F.bg 5
      have F2 := F.setB 5 (-1)
      have K1 := F2.cells
      have c1 := F2.bh.cell (k := 5) (by decide)
      have f1 := Blk.frozen F2.bh 5
      have F3 := F2.setF 5 (-1)
      have K2 := F3.cells
      have LL := Lib.hid (Blk.far (p := ⟨h, 5, none⟩) (Blk.far (p := ⟨g, 5, none⟩) L (by simpa using lg) (.int .i64 (-1))) (by simpa using lh) (.int .i64 (-1)))
      have HF := Lib.hid F3
      obtain ⟨s0, s1⟩ := K0
      obtain ⟨y0, hy0⟩ : ∃ y, y = (rgB 0)[5]'(by decide) := ⟨_, rfl⟩
      rw [← hy0] at c0
      obtain ⟨y1, hy1⟩ : ∃ y, y = (rgF 0)[5]'(by decide) := ⟨_, rfl⟩
      rw [← hy1] at c1
      clear F F2 F3 L hy0 hy1
      go_wp2_with fail
      refine wp_region_noPanic ?_
      refine wp_region_sched (S := (fun wx => wx.cell? ⟨r, 0, none⟩ = some (.slice (some ⟨g, 0, none⟩) 26 26) ∧ wx.cell? ⟨r, 1, none⟩ = some (.slice (some ⟨h, 0, none⟩) 26 26))) [(0, false), (1, false), (2, false), (3, false), (4, false), (5, false), (6, false), (7, true), (8, false), (9, true)] (by kernel_rfl) (by as_aux_lemma => kernel_rfl) (by as_aux_lemma => kernel_rfl) (by as_aux_lemma => kernel_rfl) (fun _ _ _ _ _ h => h) ⟨s0, s1⟩ ?_
      intro O9 HO9
      refine wpSched_take (i := 0) (v := ?v9x1) (by as_aux_lemma => rw [HO9.out]; simp only [List.getElem?_toArray, List.getElem?_cons_zero]; rfl) (Or.inl ⟨(by rfl), ?y9x1⟩) ?r9x1
      case y9x1 => as_aux_lemma => intro wx hSx; (try dsimp only at hSx); go_simp; try with_reducible rfl
      try simp only [Act.put, List.setIfInBounds_toArray, List.set_cons_zero, List.set_cons_succ]
      refine wpSched_take (i := 1) (v := ?v9x2) (by as_aux_lemma => rw [HO9.out]; simp only [List.getElem?_toArray, List.getElem?_cons_succ, List.getElem?_cons_zero]; rfl) (Or.inl ⟨(by rfl), ?y9x2⟩) ?r9x2
      case y9x2 => as_aux_lemma => intro wx hSx; (try dsimp only at hSx); go_simp; try with_reducible rfl
      try simp only [Act.put, List.setIfInBounds_toArray, List.set_cons_zero, List.set_cons_succ]
      refine wpSched_take (i := 2) (v := ?v9x3) (by as_aux_lemma => rw [HO9.out]; simp only [List.getElem?_toArray, List.getElem?_cons_succ, List.getElem?_cons_zero]; rfl) (Or.inl ⟨(by rfl), ?y9x3⟩) ?r9x3
      case y9x3 => as_aux_lemma => intro wx hSx; (try dsimp only at hSx); go_simp; try with_reducible rfl
      try simp only [Act.put, List.setIfInBounds_toArray, List.set_cons_zero, List.set_cons_succ]
      refine wpSched_take (i := 3) (v := ?v9x4) (by as_aux_lemma => rw [HO9.out]; simp only [List.getElem?_toArray, List.getElem?_cons_succ, List.getElem?_cons_zero]; rfl) (Or.inl ⟨(by rfl), ?y9x4⟩) ?r9x4
      case y9x4 => as_aux_lemma => intro wx hSx; (try dsimp only at hSx); go_simp; try with_reducible rfl
      try simp only [Act.put, List.setIfInBounds_toArray, List.set_cons_zero, List.set_cons_succ]
      refine wpSched_take (i := 4) (v := ?v9x5) (by as_aux_lemma => rw [HO9.out]; simp only [List.getElem?_toArray, List.getElem?_cons_succ, List.getElem?_cons_zero]; rfl) (Or.inl ⟨(by rfl), ?y9x5⟩) ?r9x5
      case y9x5 => as_aux_lemma => intro wx hSx; (try dsimp only at hSx); go_simp; try with_reducible rfl
      try simp only [Act.put, List.setIfInBounds_toArray, List.set_cons_zero, List.set_cons_succ]
      refine wpSched_take (i := 5) (v := ?v9x6) (by as_aux_lemma => rw [HO9.out]; simp only [List.getElem?_toArray, List.getElem?_cons_succ, List.getElem?_cons_zero]; rfl) (Or.inl ⟨(by rfl), ?y9x6⟩) ?r9x6
      case y9x6 => as_aux_lemma => intro wx hSx; (try dsimp only at hSx); go_simp; try with_reducible rfl
      try simp only [Act.put, List.setIfInBounds_toArray, List.set_cons_zero, List.set_cons_succ]
      refine wpSched_take (i := 6) (v := ?v9x7) (by as_aux_lemma => rw [HO9.out]; simp only [List.getElem?_toArray, List.getElem?_cons_succ, List.getElem?_cons_zero]; rfl) (Or.inl ⟨(by rfl), ?y9x7⟩) ?r9x7
      case y9x7 => as_aux_lemma => intro wx hSx; (try dsimp only at hSx); go_simp; try with_reducible rfl
      try simp only [Act.put, List.setIfInBounds_toArray, List.set_cons_zero, List.set_cons_succ]
      refine wpSched_call (i := 7) (by as_aux_lemma => rw [HO9.out]; simp only [List.getElem?_toArray, List.getElem?_cons_succ, List.getElem?_cons_zero]; rfl) (by rfl) (fun K' hK => ?_)
      go_simp
      go_wp2_with fail
      refine hK.out _ _ K1 (fun _ => ?_)
      clear hK K'
      try simp only [Act.put, List.setIfInBounds_toArray, List.set_cons_zero, List.set_cons_succ]
      refine wpSched_take (i := 8) (v := ?v9x8) (by as_aux_lemma => rw [HO9.out]; simp only [List.getElem?_toArray, List.getElem?_cons_succ, List.getElem?_cons_zero]; rfl) (Or.inl ⟨(by rfl), ?y9x8⟩) ?r9x8
      case y9x8 => as_aux_lemma => intro wx hSx; (try dsimp only at hSx); go_simp; try with_reducible rfl
      try simp only [Act.put, List.setIfInBounds_toArray, List.set_cons_zero, List.set_cons_succ]
      refine wpSched_call (i := 9) (by as_aux_lemma => rw [HO9.out]; simp only [List.getElem?_toArray, List.getElem?_cons_succ, List.getElem?_cons_zero]; rfl) (by rfl) (fun K' hK => ?_)
      go_simp
      go_wp2_with fail
      refine hK.out _ _ K2 (fun _ => ?_)
      clear hK K'
      try simp only [Act.put, List.setIfInBounds_toArray, List.set_cons_zero, List.set_cons_succ]
      refine wpSched_end (NoPanic.normal ?_)
      clear HO9 O9
      go_wp2_with fail
      go_roundw
      case rel => exact ⟨0 + 1, by omega, by go_num, HF.out.drew, LL.out.drew⟩
      case measure => simp [intOf]
    · have cl := L.cell 1
      simp at cl
      have K0 := F.cells
      have c0 := F.bg.cell (k := 4) (by decide)
      have f0 := Blk.frozen F.bg 4
      have F2 := F.setB 4 (-1)
      have K1 := F2.cells
      have c1 := F2.bh.cell (k := 4) (by decide)
      have f1 := Blk.frozen F2.bh 4
      have F3 := F2.setF 4 (-1)
      have K2 := F3.cells
      have LL := Lib.hid (Blk.far (p := ⟨h, 4, none⟩) (Blk.far (p := ⟨g, 4, none⟩) L (by simpa using lg) (.int .i64 (-1))) (by simpa using lh) (.int .i64 (-1)))
      have HF := Lib.hid F3
      obtain ⟨s0, s1⟩ := K0
      obtain ⟨y0, hy0⟩ : ∃ y, y = (rgB 1)[4]'(by decide) := ⟨_, rfl⟩
      rw [← hy0] at c0
      obtain ⟨y1, hy1⟩ : ∃ y, y = (rgF 1)[4]'(by decide) := ⟨_, rfl⟩
      rw [← hy1] at c1
      clear F F2 F3 L hy0 hy1
      go_wp2_with fail
      refine wp_region_noPanic ?_
      refine wp_region_sched (S := (fun wx => wx.cell? ⟨r, 0, none⟩ = some (.slice (some ⟨g, 0, none⟩) 26 26) ∧ wx.cell? ⟨r, 1, none⟩ = some (.slice (some ⟨h, 0, none⟩) 26 26))) [(0, false), (1, false), (2, false), (3, false), (4, false), (5, false), (6, false), (7, true), (8, false), (9, true)] (by kernel_rfl) (by as_aux_lemma => kernel_rfl) (by as_aux_lemma => kernel_rfl) (by as_aux_lemma => kernel_rfl) (fun _ _ _ _ _ h => h) ⟨s0, s1⟩ ?_
      intro O10 HO10
      refine wpSched_take (i := 0) (v := ?v10x1) (by as_aux_lemma => rw [HO10.out]; simp only [List.getElem?_toArray, List.getElem?_cons_zero]; rfl) (Or.inl ⟨(by rfl), ?y10x1⟩) ?r10x1
      case y10x1 => as_aux_lemma => intro wx hSx; (try dsimp only at hSx); go_simp; try with_reducible rfl
      try simp only [Act.put, List.setIfInBounds_toArray, List.set_cons_zero, List.set_cons_succ]
      refine wpSched_take (i := 1) (v := ?v10x2) (by as_aux_lemma => rw [HO10.out]; simp only [List.getElem?_toArray, List.getElem?_cons_succ, List.getElem?_cons_zero]; rfl) (Or.inl ⟨(by rfl), ?y10x2⟩) ?r10x2
      case y10x2 => as_aux_lemma => intro wx hSx; (try dsimp only at hSx); go_simp; try with_reducible rfl
      try simp only [Act.put, List.setIfInBounds_toArray, List.set_cons_zero, List.set_cons_succ]
      refine wpSched_take (i := 2) (v := ?v10x3) (by as_aux_lemma => rw [HO10.out]; simp only [List.getElem?_toArray, List.getElem?_cons_succ, List.getElem?_cons_zero]; rfl) (Or.inl ⟨(by rfl), ?y10x3⟩) ?r10x3
      case y10x3 => as_aux_lemma => intro wx hSx; (try dsimp only at hSx); go_simp; try with_reducible rfl
      try simp only [Act.put, List.setIfInBounds_toArray, List.set_cons_zero, List.set_cons_succ]
      refine wpSched_take (i := 3) (v := ?v10x4) (by as_aux_lemma => rw [HO10.out]; simp only [List.getElem?_toArray, List.getElem?_cons_succ, List.getElem?_cons_zero]; rfl) (Or.inl ⟨(by rfl), ?y10x4⟩) ?r10x4
      case y10x4 => as_aux_lemma => intro wx hSx; (try dsimp only at hSx); go_simp; try with_reducible rfl
      try simp only [Act.put, List.setIfInBounds_toArray, List.set_cons_zero, List.set_cons_succ]
      refine wpSched_take (i := 4) (v := ?v10x5) (by as_aux_lemma => rw [HO10.out]; simp only [List.getElem?_toArray, List.getElem?_cons_succ, List.getElem?_cons_zero]; rfl) (Or.inl ⟨(by rfl), ?y10x5⟩) ?r10x5
      case y10x5 => as_aux_lemma => intro wx hSx; (try dsimp only at hSx); go_simp; try with_reducible rfl
      try simp only [Act.put, List.setIfInBounds_toArray, List.set_cons_zero, List.set_cons_succ]
      refine wpSched_take (i := 5) (v := ?v10x6) (by as_aux_lemma => rw [HO10.out]; simp only [List.getElem?_toArray, List.getElem?_cons_succ, List.getElem?_cons_zero]; rfl) (Or.inl ⟨(by rfl), ?y10x6⟩) ?r10x6
      case y10x6 => as_aux_lemma => intro wx hSx; (try dsimp only at hSx); go_simp; try with_reducible rfl
      try simp only [Act.put, List.setIfInBounds_toArray, List.set_cons_zero, List.set_cons_succ]
      refine wpSched_take (i := 6) (v := ?v10x7) (by as_aux_lemma => rw [HO10.out]; simp only [List.getElem?_toArray, List.getElem?_cons_succ, List.getElem?_cons_zero]; rfl) (Or.inl ⟨(by rfl), ?y10x7⟩) ?r10x7
      case y10x7 => as_aux_lemma => intro wx hSx; (try dsimp only at hSx); go_simp; try with_reducible rfl
      try simp only [Act.put, List.setIfInBounds_toArray, List.set_cons_zero, List.set_cons_succ]
      refine wpSched_call (i := 7) (by as_aux_lemma => rw [HO10.out]; simp only [List.getElem?_toArray, List.getElem?_cons_succ, List.getElem?_cons_zero]; rfl) (by rfl) (fun K' hK => ?_)
      go_simp
      go_wp2_with fail
      refine hK.out _ _ K1 (fun _ => ?_)
      clear hK K'
      try simp only [Act.put, List.setIfInBounds_toArray, List.set_cons_zero, List.set_cons_succ]
      refine wpSched_take (i := 8) (v := ?v10x8) (by as_aux_lemma => rw [HO10.out]; simp only [List.getElem?_toArray, List.getElem?_cons_succ, List.getElem?_cons_zero]; rfl) (Or.inl ⟨(by rfl), ?y10x8⟩) ?r10x8
      case y10x8 => as_aux_lemma => intro wx hSx; (try dsimp only at hSx); go_simp; try with_reducible rfl
      try simp only [Act.put, List.setIfInBounds_toArray, List.set_cons_zero, List.set_cons_succ]
      refine wpSched_call (i := 9) (by as_aux_lemma => rw [HO10.out]; simp only [List.getElem?_toArray, List.getElem?_cons_succ, List.getElem?_cons_zero]; rfl) (by rfl) (fun K' hK => ?_)
      go_simp
      go_wp2_with fail
      refine hK.out _ _ K2 (fun _ => ?_)
      clear hK K'
      try simp only [Act.put, List.setIfInBounds_toArray, List.set_cons_zero, List.set_cons_succ]
      refine wpSched_end (NoPanic.normal ?_)
      clear HO10 O10
      go_wp2_with fail
      go_roundw
      case rel => exact ⟨1 + 1, by omega, by go_num, HF.out.drew, LL.out.drew⟩
      case measure => simp [intOf]
    · skip
      obtain ⟨s0, s1⟩ := F.cells
      obtain ⟨d0, d1⟩ := duo F.bq
      have g0 := Blk.frozen F.bq 0
      have g1 := Blk.frozen F.bq 1
      have HF := Lib.hid F
      clear F L
      go_wp2_with fail
      obtain ⟨c0, c1⟩ := HF.out.res
      refine bodyPost_ret (v := .agg #[.slice (some ⟨g, 0, none⟩) 26 26, .slice (some ⟨h, 0, none⟩) 26 26]) ?_ rfl (RetM.cast2 HF.out.out (by decide) (by decide))
      simp [results, Try.results36, go_sem, c0, c1]

end Go.Proofs.Ytnaeabkknmoaeaa
