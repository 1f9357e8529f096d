/-
  The document's at.
-/
import Derived.Test.YtkngegcfdabpoaaLList
import Derived.Test.YtkngegcfdabpoaaLSize
import Derived.Test.YtkngegcfdabpoaaBChoose
import Derived.Test.YtkngegcfdabpoaaPF
import Derived.Test.YtkngegcfdabpoaaPG
import Derived.Test.YtkngegcfdabpoaaPI
namespace Go.Proofs.Ytkngegcfdabpoaa
open Go.RowKit

/-- The value of the first k terms. -/
def patK (ps : List Rat) (x : Rat) (k : Nat) : Rat := sm k (fun i => ps.getD i 0 * bc x i)
theorem patK_succ (ps : List Rat) (x : Rat) (k : Nat) : patK ps x k + ps.getD k 0 * bc x k = patK ps x (k + 1) := rfl
theorem qs_patK (ps : List Rat) (x : Rat) (B C : Nat) (h : ∀ q ∈ ps, qs q ≤ B) (hB : 3 ≤ B) (hx : qs x ≤ C) (k : Nat) (hk : k ≤ 64) : qs (patK ps x k) ≤ k * (B + 64 * C + 452) + 3 := by
  refine qs_sm k _ (B + 64 * C + 451) fun i hi => ?_
  have a1 := qs_mul (ps.getD i 0) (bc x i)
  have a2 := qs_getD h hB i
  have a3 := qs_bcq x i (by omega)
  have a4 : (qs x + 7) * i ≤ (C + 7) * 64 := Nat.mul_le_mul (by omega) (by omega)
  omega
theorem qs_patK' (ps : List Rat) (x : Rat) (B C : Nat) (h : ∀ q ∈ ps, qs q ≤ B) (hB : 3 ≤ B) (hB' : B ≤ 100000) (hx : qs x ≤ C) (hC : C ≤ 1000) (k : Nat) (hk : k ≤ 64) : qs (patK ps x k) ≤ 10600000 := by
  have h1 := qs_patK ps x B C h hB hx k hk
  have h2 : k * (B + 64 * C + 452) ≤ 64 * (100000 + 64 * 1000 + 452) := Nat.mul_le_mul hk (by omega)
  omega
theorem XB.le {o : Option Nat} {q : Rat} {B : Nat} {w : World} {v : Value} (h : XV o w v q) (hB : XB o q B) : qs q ≤ B + 1 := (h.iv hB).qs
theorem RX.qs {o : Option Nat} {w : World} {A : Option Addr} {ps : List Rat} {B : Nat} (h : RX o w A ps) (hB : ∀ q ∈ ps, XB o q B) : ∀ q ∈ ps, qs q ≤ B + 1 := fun q hq => by
  obtain ⟨vs, h1, h2⟩ := h
  obtain ⟨j, hj, rfl⟩ := List.getElem_of_mem hq
  have := h2.2 j (by rw [h2.1]; exact hj)
  rw [show ps.getD j 0 = ps[j] by simp [hj]] at this
  exact XB.le this (hB _ hq)

set_option maxRecDepth 100000 in
set_option maxHeartbeats 3200000 in
theorem at_q {o : Option Nat} {A : Option Addr} {cap : Nat} {ps : List Rat} {B C : Nat} {w : World} {v : Value} {x : Rat} (h : RX o w A ps) (hB : ∀ q ∈ ps, XB o q B) (hB2 : 2 ≤ B) (hB' : B ≤ 90000) (hl : ps.length ≤ 64) (hx : IV w v x C) (hC : C ≤ 900) :
    Calls Try.prog 51 #[.slice A ps.length cap, v] w (RetQ w (pat ps x)) := by
  obtain ⟨sx, Ax, nx, cx, Bx, mx, dx, rfl⟩ := hx.shape
  have HX := Lib.hid hx
  have HQS := Lib.hid (fun k (hk : k ≤ 64) => qs_patK' ps x (B + 1) (C + 1) (h.qs hB) (by omega) (by omega) hx.qs (by omega) k hk)
  have HR := Lib.hid (h.iv hB)
  obtain ⟨N, hN⟩ : ∃ L, L = ps.length := ⟨_, rfl⟩
  have HL := Lib.hid hN
  rw [← hN] at hl ⊢
  clear h hB hN hx
  go_enter Try.func51, Try.ntmps51
  go_wp2_with fail
  obtain ⟨w0, hw0⟩ : ∃ w0, w0 = w.alloc (Obj.cells #[.bool sx, .slice Ax nx cx, .slice Bx mx dx] 31) := ⟨_, rfl⟩
  have U0 : Up w w0 := by rw [hw0]; exact (Below.refl _ _).alloc (Nat.le_refl _) _
  have q0 : Blk w0 w.heap.size 31 #[.bool sx, .slice Ax nx cx, .slice Bx mx dx] := by rw [hw0]; exact Blk.new' _ _ _ rfl
  have e0 : w0.heap.size = w.heap.size + 1 := by rw [hw0]; simp
  rw [← hw0]
  clear hw0
  obtain ⟨w1, hw1⟩ : ∃ w1, w1 = w0.alloc (Obj.cells #[.bool false, .slice none 0 0, .slice none 0 0] 31) := ⟨_, rfl⟩
  have Uw1 : Up w0 w1 := by rw [hw1]; exact (Below.refl _ _).alloc (Nat.le_refl _) _
  have rw1 : Blk w1 (w.heap.size + 1) 31 #[.bool false, .slice none 0 0, .slice none 0 0] := by rw [hw1]; exact Blk.new' _ _ _ e0.symm
  rw [← hw1]
  clear hw1
  refine (rFromInt_q 0 (by omega) (by omega)).mono ?_
  rintro e w2 ⟨v2, rfl, hQ2, U2⟩
  obtain ⟨s2, A2, n2, c2, B2, m2, d2, rfl⟩ := hQ2.shape
  have r2 := rw1.up U2
  have q2 := (q0.up Uw1).up U2
  have V2 := U0.trans (Uw1.trans U2)
  have HQ2 := Lib.hid hQ2
  clear hQ2 rw1 Uw1 U2 e0 q0 U0
  go_wp2_with fail
  obtain ⟨w3, hw3⟩ : ∃ w3, w3 = w2.alloc (Obj.cells #[.bool s2, .slice A2 n2 c2, .slice B2 m2 d2] 31) := ⟨_, rfl⟩
  have U3 : Up w2 w3 := by rw [hw3]; exact (Below.refl _ _).alloc (Nat.le_refl _) _
  have x3 : Blk w3 w2.heap.size 31 #[.bool s2, .slice A2 n2 c2, .slice B2 m2 d2] := by rw [hw3]; exact Blk.new' _ _ _ rfl
  rw [← hw3]
  clear hw3
  obtain ⟨gf, hgf⟩ : ∃ g, g = w2.heap.size := ⟨_, rfl⟩
  obtain ⟨gx, hgx, hgx2⟩ : ∃ g, g = w.heap.size ∧ w.heap.size ≤ g := ⟨_, rfl, Nat.le_refl _⟩
  obtain ⟨gz, hgz, hgz2⟩ : ∃ g, g = w.heap.size + 1 ∧ w.heap.size ≤ g := ⟨_, rfl, by omega⟩
  have hlt : gz < gf := by have := r2.lt; omega
  have hlt2 : gx < gf := by omega
  rw [← hgz] at r2 ⊢
  rw [← hgx] at q2 ⊢
  rw [← hgf] at x3 ⊢
  have HB3 := Lib.hid (show BoxQ w3 gf (patK ps x 0) from ⟨_, _, _, _, _, _, _, x3, HQ2.out.up U3⟩)
  have HZ3 := Lib.hid (And.intro (r2.up U3) (q2.up U3))
  have V3 := V2.trans U3
  clear x3 hgf r2 U3 V2 HQ2 hgx hgz q2
  go_loopw [6] (fun iv wr => ∃ j : Nat, j ≤ N ∧ iv = .int .i64 j ∧ Hid (BoxQ wr gf (patK ps x j) ∧ Blk wr gz 31 #[.bool false, .slice none 0 0, .slice none 0 0] ∧ Blk wr gx 31 #[.bool sx, .slice Ax nx cx, .slice Bx mx dx]) ∧ Up w wr) (fun iv _ => N - (intOf iv).toNat)
  case atStart => exact ⟨0, Nat.zero_le _, rfl, Lib.hid ⟨HB3.out, HZ3.out⟩, V3⟩
  case round =>
    obtain ⟨k, hk, rfl, HB, hU⟩ := hrel
    have hus := hU.size
    obtain ⟨bx0, bz, by_⟩ := HB.out
    obtain ⟨sb, Ab, nb, cb, Bb, mb, db, bx, hqb⟩ := bx0
    clear HB3 HZ3 V3
    by_cases hkN : k < N
    · have t1 : decide ((k : Int) < (N : Int)) = true := by simp; omega
      obtain ⟨b, off, s, X, a, c, Y, m, d, rfl, hb, hx, c0, c1, c2⟩ := (HR.out.up hU).at_ (k := k) (by have := HL.out; omega)
      have ki1 : (0 : Int) ≤ k := by omega
      have ki2 : (k : Int) < N := by omega
      have HF := Lib.hid (fun wx (u : Up wr wx) => ratio_q k (by omega) (HX.out.up (hU.trans u)) (by omega))
      have HQB := Lib.hid (qs_bcq64 (j := k) (k := k) HX.out.qs (by omega) (Nat.le_refl _) (by omega))
      have HQP := Lib.hid (XB.le (B := B) hx (Nat.le_refl _))
      have HM := Lib.hid (fun wx vx (u : Up wr wx) (h : QV wx vx (bc x k)) => rMul_q (XV.iv (hx.up u) (B := B) (Nat.le_refl _)) (h.iv HQB.out) (by omega))
      have HA := Lib.hid (fun wx vx (u : Up wr wx) (h : QV wx vx (ps.getD k 0 * bc x k)) => rAdd_q ((hqb.up u).iv (HQS.out k (by omega))) (h.iv (Nat.le_trans (qs_mul _ _) (Nat.add_le_add HQP.out HQB.out))) (by omega))
      rw [patK_succ] at HA
      have lf := bx.lt
      have HE : Hid (∀ W : World, Up wr W → (W.cell? ⟨gf, 0, none⟩ = some (.bool sb) ∧ W.cell? ⟨gf, 1, none⟩ = some (.slice Ab nb cb) ∧ W.cell? ⟨gf, 2, none⟩ = some (.slice Bb mb db)) ∧ (W.cell? ⟨b, off + k * 3, none⟩ = some (.bool s) ∧ W.cell? ⟨b, off + k * 3 + 1, none⟩ = some (.slice X a c) ∧ W.cell? ⟨b, off + k * 3 + 2, none⟩ = some (.slice Y m d)) ∧ (W.cell? ⟨gx, 0, none⟩ = some (.bool sx) ∧ W.cell? ⟨gx, 1, none⟩ = some (.slice Ax nx cx) ∧ W.cell? ⟨gx, 2, none⟩ = some (.slice Bx mx dx))) := Lib.hid fun W hW => And.intro (tri (bx.up hW)) (And.intro (⟨by rw [hW.cell (by exact hb)]; exact c0, by rw [hW.cell (by exact hb)]; exact c1, by rw [hW.cell (by exact hb)]; exact c2⟩) (tri (by_.up hW)))
      clear hqb hx
      obtain ⟨x0, x1, x2⟩ := tri bx
      obtain ⟨y0, y1, y2⟩ := tri by_
      go_wp2_with fail
      refine wp_region_noPanic ?_
      refine wp_region_till (S := (fun wx => (wx.cell? ⟨gf, 0, none⟩ = some (.bool sb) ∧ wx.cell? ⟨gf, 1, none⟩ = some (.slice Ab nb cb) ∧ wx.cell? ⟨gf, 2, none⟩ = some (.slice Bb mb db)) ∧ (wx.cell? ⟨b, off + k * 3, none⟩ = some (.bool s) ∧ wx.cell? ⟨b, off + k * 3 + 1, none⟩ = some (.slice X a c) ∧ wx.cell? ⟨b, off + k * 3 + 2, none⟩ = some (.slice Y m d)) ∧ (wx.cell? ⟨gx, 0, none⟩ = some (.bool sx) ∧ wx.cell? ⟨gx, 1, none⟩ = some (.slice Ax nx cx) ∧ wx.cell? ⟨gx, 2, none⟩ = some (.slice Bx mx dx)))) 10 [(0, 0), (1, 0), (2, 0), (3, 0), (4, 0), (5, 0), (6, 0), (7, 1), (8, 1), (9, 1)] [10] (by kernel_rfl) (by as_aux_lemma => kernel_rfl) (by as_aux_lemma => kernel_rfl) (by as_aux_lemma => kernel_rfl) (fun _ _ _ _ _ h => h) (HE.out _ (Up.refl wr).drew) ?_
      intro O2 HO2
      refine wpT_take (i := 0) (v := ?_) (by as_aux_lemma => rw [HO2.out]; simp only [List.getElem?_toArray, List.getElem?_cons_zero]; rfl) (Or.inl ⟨(by rfl), ?_⟩) ?_
      rotate_left
      · as_aux_lemma => intro wx hSx; (try dsimp only at hSx); go_simp; try with_reducible rfl
      try simp only [Act.put, List.setIfInBounds_toArray, List.set_cons_zero, List.set_cons_succ]
      refine wpT_take (i := 1) (v := ?_) (by as_aux_lemma => rw [HO2.out]; simp only [List.getElem?_toArray, List.getElem?_cons_succ, List.getElem?_cons_zero]; rfl) (Or.inl ⟨(by rfl), ?_⟩) ?_
      rotate_left
      · as_aux_lemma => intro wx hSx; (try dsimp only at hSx); go_simp; try with_reducible rfl
      try simp only [Act.put, List.setIfInBounds_toArray, List.set_cons_zero, List.set_cons_succ]
      refine wpT_take (i := 2) (v := ?_) (by as_aux_lemma => rw [HO2.out]; simp only [List.getElem?_toArray, List.getElem?_cons_succ, List.getElem?_cons_zero]; rfl) (Or.inl ⟨(by rfl), ?_⟩) ?_
      rotate_left
      · as_aux_lemma => intro wx hSx; (try dsimp only at hSx); go_simp; try with_reducible rfl
      try simp only [Act.put, List.setIfInBounds_toArray, List.set_cons_zero, List.set_cons_succ]
      refine wpT_take (i := 3) (v := ?_) (by as_aux_lemma => rw [HO2.out]; simp only [List.getElem?_toArray, List.getElem?_cons_succ, List.getElem?_cons_zero]; rfl) (Or.inl ⟨(by rfl), ?_⟩) ?_
      rotate_left
      · as_aux_lemma => intro wx hSx; (try dsimp only at hSx); go_simp; try with_reducible rfl
      try simp only [Act.put, List.setIfInBounds_toArray, List.set_cons_zero, List.set_cons_succ]
      refine wpT_take (i := 4) (v := ?_) (by as_aux_lemma => rw [HO2.out]; simp only [List.getElem?_toArray, List.getElem?_cons_succ, List.getElem?_cons_zero]; rfl) (Or.inl ⟨(by rfl), ?_⟩) ?_
      rotate_left
      · as_aux_lemma => intro wx hSx; (try dsimp only at hSx); go_simp; try with_reducible rfl
      try simp only [Act.put, List.setIfInBounds_toArray, List.set_cons_zero, List.set_cons_succ]
      refine wpT_take (i := 5) (v := ?_) (by as_aux_lemma => rw [HO2.out]; simp only [List.getElem?_toArray, List.getElem?_cons_succ, List.getElem?_cons_zero]; rfl) (Or.inl ⟨(by rfl), ?_⟩) ?_
      rotate_left
      · as_aux_lemma => intro wx hSx; (try dsimp only at hSx); go_simp; try with_reducible rfl
      try simp only [Act.put, List.setIfInBounds_toArray, List.set_cons_zero, List.set_cons_succ]
      refine wpT_take (i := 6) (v := ?_) (by as_aux_lemma => rw [HO2.out]; simp only [List.getElem?_toArray, List.getElem?_cons_succ, List.getElem?_cons_zero]; rfl) (Or.inl ⟨(by rfl), ?_⟩) ?_
      rotate_left
      · as_aux_lemma => intro wx hSx; (try dsimp only at hSx); go_simp; try with_reducible rfl
      try simp only [Act.put, List.setIfInBounds_toArray, List.set_cons_zero, List.set_cons_succ]
      refine wpT_call (i := 7) (by as_aux_lemma => rw [HO2.out]; simp only [List.getElem?_toArray, List.getElem?_cons_succ, List.getElem?_cons_zero]; rfl) (by rfl) (fun K' hK => ?_)
      go_simp
      refine (HF.out _ (Up.refl wr).drew).mono ?_
      rintro e w6 ⟨v6, rfl, hQ6, U6⟩
      obtain ⟨s6, A6, n6, c6, B6, m6, d6, rfl⟩ := hQ6.shape
      have HQ6 := Lib.hid hQ6
      have V6 : Up wr w6 := Up.trans (Up.refl wr).drew U6
      have kk6 := HE.out _ V6
      clear hQ6
      go_wp2_with fail
      refine hK.out _ _ kk6 (fun _ => ?_)
      clear hK K'
      try simp only [Act.put, List.setIfInBounds_toArray, List.set_cons_zero, List.set_cons_succ]
      refine wpT_call (i := 8) (by as_aux_lemma => rw [HO2.out]; simp only [List.getElem?_toArray, List.getElem?_cons_succ, List.getElem?_cons_zero]; rfl) (by rfl) (fun K' hK => ?_)
      go_simp
      refine (HM.out _ _ V6 HQ6.out).mono ?_
      rintro e w7 ⟨v7, rfl, hQ7, U7⟩
      obtain ⟨s7, A7, n7, c7, B7, m7, d7, rfl⟩ := hQ7.shape
      have HQ7 := Lib.hid hQ7
      have V7 : Up wr w7 := Up.trans V6 U7
      have kk7 := HE.out _ V7
      clear hQ7
      go_wp2_with fail
      refine hK.out _ _ kk7 (fun _ => ?_)
      clear hK K'
      try simp only [Act.put, List.setIfInBounds_toArray, List.set_cons_zero, List.set_cons_succ]
      refine wpT_call (i := 9) (by as_aux_lemma => rw [HO2.out]; simp only [List.getElem?_toArray, List.getElem?_cons_succ, List.getElem?_cons_zero]; rfl) (by rfl) (fun K' hK => ?_)
      go_simp
      refine (HA.out _ _ V7 HQ7.out).mono ?_
      rintro e w8 ⟨v8, rfl, hQ8, U8⟩
      obtain ⟨s8, A8, n8, c8, B8, m8, d8, rfl⟩ := hQ8.shape
      have HQ8 := Lib.hid hQ8
      have V8 : Up wr w8 := Up.trans V7 U8
      have kk8 := HE.out _ V8
      clear hQ8
      have x8 := bx.up V8
      obtain ⟨k0, k1, k2⟩ := tri x8
      have f0 := x8.frozen 0
      have f1 := x8.frozen 1
      have f2 := x8.frozen 2
      clear x8
      go_wp2_with fail
      refine hK.out _ _ kk8 (fun _ => ?_)
      clear hK K'
      try simp only [Act.put, List.setIfInBounds_toArray, List.set_cons_zero, List.set_cons_succ]
      refine wpT_tail (i := 10) (by as_aux_lemma => rw [HO2.out]; simp only [List.getElem?_toArray, List.getElem?_cons_succ, List.getElem?_cons_zero]; rfl) (by rfl) (fun K' hK => ?_)
      go_simp
      go_wp2_with fail
      refine hK.out _ _ ?_
      clear hK K'
      try simp only [Act.put, List.setIfInBounds_toArray, List.set_cons_zero, List.set_cons_succ]
      refine wpT_end (NoPanic.normal ?_)
      clear HO2 O2
      have x9 := bx.up V8
      have z9 := bz.up V8
      have HB9 := Lib.hid (BoxQ.of (t := 0) x9 HQ8.out)
      have hz9 := ((z9.far (p := ⟨gf, 0, none⟩) (by simp; omega) (.bool s8)).far (p := ⟨gf, 1, none⟩) (by simp; omega) (.slice A8 n8 c8)).far (p := ⟨gf, 2, none⟩) (by simp; omega) (.slice B8 m8 d8)
      have hy9 := (((by_.up V8).far (p := ⟨gf, 0, none⟩) (by simp; omega) (.bool s8)).far (p := ⟨gf, 1, none⟩) (by simp; omega) (.slice A8 n8 c8)).far (p := ⟨gf, 2, none⟩) (by simp; omega) (.slice B8 m8 d8)
      have U9 := up_tri (g := gf) (hU.trans V8) (by omega) (.bool s8) (.slice A8 n8 c8) (.slice B8 m8 d8)
      go_wp2_with fail
      go_roundw
      case rel => exact ⟨k + 1, by omega, by go_num, Lib.hid ⟨HB9.out, hz9, hy9⟩, U9⟩
      case measure => simp [intOf]; omega
    · have t1 : decide ((k : Int) < (N : Int)) = false := by simp; omega
      have hkn : patK ps x k = pat ps x := by rw [show k = ps.length from by have := HL.out; omega]; rfl
      rw [hkn] at hqb
      clear hkn
      obtain ⟨x0, x1, x2⟩ := tri bx
      obtain ⟨o0, o1, o2⟩ := tri bz
      have f0 := bz.frozen 0
      have f1 := bz.frozen 1
      have f2 := bz.frozen 2
      have HQ5 := Lib.hid hqb
      clear hqb
      go_wp2_with fail
      obtain ⟨k0, k1, k2⟩ := tri (tri_set bz (.bool sb) (.slice Ab nb cb) (.slice Bb mb db))
      refine bodyPost_ret (v := .agg #[.bool sb, .slice Ab nb cb, .slice Bb mb db]) ?_ rfl (ret_q bz HQ5.out hU hgz2)
      simp [results, Try.results51, go_sem, k0, k1, k2]
end Go.Proofs.Ytkngegcfdabpoaa
