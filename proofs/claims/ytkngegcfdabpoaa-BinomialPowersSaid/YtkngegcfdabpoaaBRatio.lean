/-
  The document's ratio, Over and Choose: binomial coefficients.
-/
import Derived.Test.YtkngegcfdabpoaaBFall
import Derived.Test.YtkngegcfdabpoaaPI
import Derived.Test.YtkngegcfdabpoaaPH
namespace Go.Proofs.Ytkngegcfdabpoaa
open Go.RowKit

theorem qs_bcq (q : Rat) : ∀ k : Nat, k ≤ 1000 → qs (bc q k) ≤ (qs q + 7) * k + 3 := by
  intro k
  induction k with
  | zero => intro _; rw [bc_zero]; exact qs_int 1 (by omega) (by omega)
  | succ k ih =>
    intro hk
    rw [bc_succ]
    have a1 := qs_div (bc q k * (q - (k : Rat))) ((k : Rat) + 1)
    have a2 := qs_mul (bc q k) (q - (k : Rat))
    have a3 := qs_sub q (k : Rat)
    have a4 := qs_int (k : Int) (by omega) (by omega)
    have a5 := qs_int ((k : Int) + 1) (by omega) (by omega)
    rw [Rat.intCast_natCast] at a4
    rw [Rat.intCast_add, Rat.intCast_natCast, show ((1 : Int) : Rat) = 1 from rfl] at a5
    have := ih (by omega)
    rw [Nat.mul_add, Nat.mul_one]
    omega
theorem qs_bcq64 {q : Rat} {B k j : Nat} (h : qs q ≤ B + 1) (hk : k ≤ 64) (hj : j ≤ k) (hB : B ≤ 100000) : qs (bc q j) ≤ 6500000 := by
  have h1 := qs_bcq q j (by omega)
  have h2 : (qs q + 7) * j ≤ (B + 8) * 64 := Nat.mul_le_mul (by omega) (by omega)
  omega

set_option maxRecDepth 100000 in
set_option maxHeartbeats 6400000 in
theorem ratio_q {v : Value} {q : Rat} {B : Nat} (k : Nat) (hk : k ≤ 64) {w : World} (hv : IV w v q B) (hB : B ≤ 100000) :
    Calls Try.prog 69 #[v, .int .i64 (k : Int)] w (RetQ w (bc q k)) := by
  obtain ⟨sa, Aa, na, ca, Ba, ma, da, rfl⟩ := hv.shape
  have HV := Lib.hid hv
  clear hv
  go_enter Try.func69, Try.ntmps69
  go_wp2_with fail
  obtain ⟨w1, hw1⟩ : ∃ w1, w1 = (w.alloc (Obj.cells #[.bool sa, .slice Aa na ca, .slice Ba ma da] 31)).alloc (Obj.cells #[.bool false, .slice none 0 0, .slice none 0 0] 31) := ⟨_, rfl⟩
  have U1 : Up w w1 := by rw [hw1]; exact ((Below.refl _ _).alloc (Nat.le_refl _) _).alloc (by simp) _
  have a1 : Blk w1 w.heap.size 31 #[.bool sa, .slice Aa na ca, .slice Ba ma da] := by rw [hw1]; exact (Blk.new w _ _).alloc _
  have r1 : Blk w1 (w.heap.size + 1) 31 #[.bool false, .slice none 0 0, .slice none 0 0] := by rw [hw1]; exact Blk.new' _ _ _ (by simp)
  rw [← hw1]
  clear hw1
  refine (rFromInt_q 1 (by omega) (by omega)).mono ?_
  rintro e w2 ⟨v2, rfl, hQ2, U2⟩
  obtain ⟨s2, A2, n2, c2, B2, m2, d2, rfl⟩ := hQ2.shape
  have r2 := r1.up U2
  have a2 := a1.up U2
  have V2 := U1.trans U2
  have HQ2 := Lib.hid hQ2
  clear hQ2 r1 U1 U2 a1
  go_wp2_with fail
  obtain ⟨w3, hw3⟩ : ∃ w3, w3 = w2.alloc (Obj.cells #[.bool s2, .slice A2 n2 c2, .slice B2 m2 d2] 31) := ⟨_, rfl⟩
  have U3 : Up w2 w3 := by rw [hw3]; exact (Below.refl _ _).alloc (Nat.le_refl _) _
  have x3 : Blk w3 w2.heap.size 31 #[.bool s2, .slice A2 n2 c2, .slice B2 m2 d2] := by rw [hw3]; exact Blk.new' _ _ _ rfl
  rw [← hw3]
  clear hw3
  obtain ⟨g5, hg5⟩ : ∃ g, g = w2.heap.size := ⟨_, rfl⟩
  have hlt5 : w.heap.size + 1 < g5 := by have := r2.lt; omega
  rw [← hg5] at x3 ⊢
  have HB3 := Lib.hid (show BoxQ w3 g5 (bc q 0) from ⟨_, _, _, _, _, _, _, x3, by rw [bc_zero]; exact HQ2.out.up U3⟩)
  have HZ3 := Lib.hid (And.intro (r2.up U3) (a2.up U3))
  have V3 := V2.trans U3
  clear x3 hg5 r2 a2 U3 V2 HQ2
  go_loopw [6] (fun iv wr => ∃ j : Nat, j ≤ k ∧ iv = .int .i64 j ∧ Hid (BoxQ wr g5 (bc q j) ∧ Blk wr (w.heap.size + 1) 31 #[.bool false, .slice none 0 0, .slice none 0 0] ∧ Blk wr w.heap.size 31 #[.bool sa, .slice Aa na ca, .slice Ba ma da]) ∧ Up w wr) (fun iv _ => k - (intOf iv).toNat)
  case atStart => exact ⟨0, Nat.zero_le _, rfl, Lib.hid ⟨HB3.out, HZ3.out.1, HZ3.out.2⟩, V3⟩
  case round =>
    obtain ⟨j, hjk, rfl, HB, hU⟩ := hrel
    have hus := hU.size
    by_cases hlt : j < k
    · obtain ⟨bx0, bz, by_⟩ := HB.out
      obtain ⟨sb, Ab, nb, cb, Bb, mb, db, bx, hqb⟩ := bx0
      have hS1 := HV.out.qs
      have hSj := qs_bcq64 hS1 hk hjk hB
      have HFj := Lib.hid (fun (wx : World) => rFromInt_q (w := wx) (j : Int) (by omega) (by omega))
      have HFk := Lib.hid (fun (wx : World) => rFromInt_q (w := wx) ((j : Int) + 1) (by omega) (by omega))
      have hI1 : qs (((j : Int) : Rat)) ≤ 3 := qs_int _ (by omega) (by omega)
      have hI2 : qs ((((j : Int) + 1 : Int) : Rat)) ≤ 3 := qs_int _ (by omega) (by omega)
      have hs3 : qs (q - ((j : Int) : Rat)) ≤ B + 5 := Nat.le_trans (qs_sub _ _) (by omega)
      have hs4 : qs (bc q j * (q - ((j : Int) : Rat))) ≤ 6700000 := Nat.le_trans (qs_mul _ _) (by omega)
      have HSu := Lib.hid (fun wx vx (u : Up wr wx) (h : QV wx vx ((j : Int) : Rat)) => rSub_q ((HV.out.up hU).up u) (h.iv (B := 3) hI1) (by omega))
      have HMu := Lib.hid (fun wx vx (u : Up wr wx) (h : QV wx vx (q - ((j : Int) : Rat))) => rMul_q ((hqb.up u).iv (B := 6500000) hSj) (h.iv (B := B + 5) hs3) (by omega))
      have HDi := Lib.hid (fun (wo : World) (vo : Value) (ho : QV wo vo (bc q j * (q - ((j : Int) : Rat)))) wx vx (u : Up wo wx) (h : QV wx vx (((j : Int) + 1 : Int) : Rat)) => rDiv_q ((ho.up u).iv (B := 6700000) hs4) (h.iv (B := 3) hI2) (by omega))
      rw [show bc q j * (q - ((j : Int) : Rat)) / (((j : Int) + 1 : Int) : Rat) = bc q (j + 1) from by rw [bc_succ, Rat.intCast_add, Rat.intCast_natCast]; rfl] at HDi
      obtain ⟨bb, hbb⟩ : ∃ bb, bb = decide ((((j : Int) + 1 : Int) : Rat) ≠ 0) := ⟨_, rfl⟩
      rw [← hbb] at HDi
      have HQB := Lib.hid hqb
      have e2 : IntKind.i64.wrap ((j : Int) + 1) = (j : Int) + 1 := IntWalk.i64_in _ (by omega)
      clear hS1 hSj hI1 hI2 hs3 hs4 hbb hqb
      obtain ⟨x0, x1, x2⟩ := tri bx
      obtain ⟨y0, y1, y2⟩ := tri by_
      go_wp2_with fail
      refine wp_region_noPanic ?_
      refine wp_region_till (S := (fun wx => (wx.cell? ⟨w.heap.size, 0, none⟩ = some (.bool sa) ∧ wx.cell? ⟨w.heap.size, 1, none⟩ = some (.slice Aa na ca) ∧ wx.cell? ⟨w.heap.size, 2, none⟩ = some (.slice Ba ma da)) ∧ (wx.cell? ⟨g5, 0, none⟩ = some (.bool sb) ∧ wx.cell? ⟨g5, 1, none⟩ = some (.slice Ab nb cb) ∧ wx.cell? ⟨g5, 2, none⟩ = some (.slice Bb mb db)))) 6 [(0, 0), (1, 0), (2, 0), (3, 1), (4, 1), (5, 1)] [6] (by kernel_rfl) (by as_aux_lemma => kernel_rfl) (by as_aux_lemma => kernel_rfl) (by as_aux_lemma => kernel_rfl) (fun _ _ _ _ _ h => h) (And.intro (tri (Blk.drew by_)) (tri (Blk.drew bx))) ?_
      intro O2 HO2
      refine wpT_take (i := 0) (v := ?_) (by as_aux_lemma => rw [HO2.out]; simp only [List.getElem?_toArray, List.getElem?_cons_zero]; rfl) (Or.inl ⟨(by rfl), ?_⟩) ?_
      rotate_left
      · as_aux_lemma => intro wx hSx; (try dsimp only at hSx); go_simp; try with_reducible rfl
      try simp only [Act.put, List.setIfInBounds_toArray, List.set_cons_zero, List.set_cons_succ]
      refine wpT_take (i := 1) (v := ?_) (by as_aux_lemma => rw [HO2.out]; simp only [List.getElem?_toArray, List.getElem?_cons_succ, List.getElem?_cons_zero]; rfl) (Or.inl ⟨(by rfl), ?_⟩) ?_
      rotate_left
      · as_aux_lemma => intro wx hSx; (try dsimp only at hSx); go_simp; try with_reducible rfl
      try simp only [Act.put, List.setIfInBounds_toArray, List.set_cons_zero, List.set_cons_succ]
      refine wpT_take (i := 2) (v := ?_) (by as_aux_lemma => rw [HO2.out]; simp only [List.getElem?_toArray, List.getElem?_cons_succ, List.getElem?_cons_zero]; rfl) (Or.inl ⟨(by rfl), ?_⟩) ?_
      rotate_left
      · as_aux_lemma => intro wx hSx; (try dsimp only at hSx); go_simp; try with_reducible rfl
      try simp only [Act.put, List.setIfInBounds_toArray, List.set_cons_zero, List.set_cons_succ]
      refine wpT_call (i := 3) (by as_aux_lemma => rw [HO2.out]; simp only [List.getElem?_toArray, List.getElem?_cons_succ, List.getElem?_cons_zero]; rfl) (by rfl) (fun K' hK => ?_)
      go_simp
      refine (HFj.out _).mono ?_
      rintro e w6 ⟨v6, rfl, hQ6, U6⟩
      obtain ⟨s6, A6, n6, c6, B6, m6, d6, rfl⟩ := hQ6.shape
      have HQ6 := Lib.hid hQ6
      have V6 : Up wr w6 := Up.trans (Up.refl wr).drew U6
      have x6 := bx.up V6
      have y6 := by_.up V6
      have s6' := And.intro (tri y6) (tri x6)
      clear hQ6
      go_wp2_with fail
      refine hK.out _ _ s6' (fun _ => ?_)
      clear hK K'
      try simp only [Act.put, List.setIfInBounds_toArray, List.set_cons_zero, List.set_cons_succ]
      refine wpT_call (i := 4) (by as_aux_lemma => rw [HO2.out]; simp only [List.getElem?_toArray, List.getElem?_cons_succ, List.getElem?_cons_zero]; rfl) (by rfl) (fun K' hK => ?_)
      go_simp
      refine (HSu.out _ _ V6 HQ6.out).mono ?_
      rintro e w7 ⟨v7, rfl, hQ7, U7⟩
      obtain ⟨s7, A7, n7, c7, B7, m7, d7, rfl⟩ := hQ7.shape
      have HQ7 := Lib.hid hQ7
      have V7 := V6.trans U7
      have x7 := bx.up V7
      have y7 := by_.up V7
      have s7' := And.intro (tri y7) (tri x7)
      clear hQ7
      go_wp2_with fail
      refine hK.out _ _ s7' (fun _ => ?_)
      clear hK K'
      try simp only [Act.put, List.setIfInBounds_toArray, List.set_cons_zero, List.set_cons_succ]
      refine wpT_call (i := 5) (by as_aux_lemma => rw [HO2.out]; simp only [List.getElem?_toArray, List.getElem?_cons_succ, List.getElem?_cons_zero]; rfl) (by rfl) (fun K' hK => ?_)
      go_simp
      refine (HMu.out _ _ V7 HQ7.out).mono ?_
      rintro e w8 ⟨v8, rfl, hQ8, U8⟩
      obtain ⟨s8, A8, n8, c8, B8, m8, d8, rfl⟩ := hQ8.shape
      have HQ8 := Lib.hid hQ8
      have V8 := V7.trans U8
      have x8 := bx.up V8
      have y8 := by_.up V8
      have z8 := bz.up V8
      have s8' := And.intro (tri y8) (tri x8)
      obtain ⟨k0, k1, k2⟩ := tri x8
      have f0 := x8.frozen 0
      have f1 := x8.frozen 1
      have f2 := x8.frozen 2
      clear hQ8
      go_wp2_with fail
      refine hK.out _ _ s8' (fun _ => ?_)
      clear hK K'
      try simp only [Act.put, List.setIfInBounds_toArray, List.set_cons_zero, List.set_cons_succ]
      refine wpT_tail (i := 6) (by as_aux_lemma => rw [HO2.out]; simp only [List.getElem?_toArray, List.getElem?_cons_succ, List.getElem?_cons_zero]; rfl) (by rfl) (fun K' hK => ?_)
      go_simp
      go_wp2_with fail
      refine hK.out _ _ ?_
      clear hK K'
      try simp only [Act.put, List.setIfInBounds_toArray, List.set_cons_zero, List.set_cons_succ]
      refine wpT_end (NoPanic.normal ?_)
      clear HO2 O2
      obtain ⟨w9, hw9⟩ : ∃ w9, w9 = ((w8.setCell ⟨g5, 0, none⟩ (.bool s8)).setCell ⟨g5, 1, none⟩ (.slice A8 n8 c8)).setCell ⟨g5, 2, none⟩ (.slice B8 m8 d8) := ⟨_, rfl⟩
      have x9 : Blk w9 g5 31 #[.bool s8, .slice A8 n8 c8, .slice B8 m8 d8] := by rw [hw9]; exact tri_set x8 _ _ _
      have HQ9 : QV w9 (.agg #[.bool s8, .slice A8 n8 c8, .slice B8 m8 d8]) (bc q j * (q - ((j : Int) : Rat))) := by rw [hw9]; exact QV.kp HQ8.out (Kp.tri (Kp.refl w8) x8)
      have y9 : Blk w9 w.heap.size 31 #[.bool sa, .slice Aa na ca, .slice Ba ma da] := by rw [hw9]; exact ((y8.far (by simp; omega) _).far (by simp; omega) _).far (by simp; omega) _
      have z9 : Blk w9 (w.heap.size + 1) 31 #[.bool false, .slice none 0 0, .slice none 0 0] := by rw [hw9]; exact ((z8.far (by simp; omega) _).far (by simp; omega) _).far (by simp; omega) _
      have V9 : Up w w9 := by rw [hw9]; exact up_tri (hU.trans V8) (by omega) _ _ _
      rw [← hw9]
      replace HDi := Lib.hid (HDi.out _ _ HQ9)
      clear hw9 HQ9 x8 y8 z8 V8 U8 x7 y7 V7 U7 x6 y6 V6 U6 bx by_ bz HMu HSu HFj HQ6 HQ7 HQ8 x0 x1 x2 y0 y1 y2 k0 k1 k2 f0 f1 f2 s6' s7' s8' HB HQB
      obtain ⟨x0, x1, x2⟩ := tri x9
      go_wp2_with fail
      refine wp_region_noPanic ?_
      refine wp_region_till (S := (fun wx => (wx.cell? ⟨g5, 0, none⟩ = some (.bool s8) ∧ wx.cell? ⟨g5, 1, none⟩ = some (.slice A8 n8 c8) ∧ wx.cell? ⟨g5, 2, none⟩ = some (.slice B8 m8 d8)))) 8 [(0, 0), (1, 0), (2, 0), (3, 1), (4, 1), (5, 0), (6, 0), (7, 2)] [8] (by kernel_rfl) (by as_aux_lemma => kernel_rfl) (by as_aux_lemma => kernel_rfl) (by as_aux_lemma => kernel_rfl) (fun _ _ _ _ _ h => h) (tri (Blk.drew x9)) ?_
      intro O3 HO3
      refine wpT_take (i := 0) (v := ?_) (by as_aux_lemma => rw [HO3.out]; simp only [List.getElem?_toArray, List.getElem?_cons_zero]; rfl) (Or.inl ⟨(by rfl), ?_⟩) ?_
      rotate_left
      · as_aux_lemma => intro wx hSx; (try dsimp only at hSx); go_simp; try with_reducible rfl
      try simp only [Act.put, List.setIfInBounds_toArray, List.set_cons_zero, List.set_cons_succ]
      refine wpT_take (i := 1) (v := ?_) (by as_aux_lemma => rw [HO3.out]; simp only [List.getElem?_toArray, List.getElem?_cons_succ, List.getElem?_cons_zero]; rfl) (Or.inl ⟨(by rfl), ?_⟩) ?_
      rotate_left
      · as_aux_lemma => intro wx hSx; (try dsimp only at hSx); go_simp; try with_reducible rfl
      try simp only [Act.put, List.setIfInBounds_toArray, List.set_cons_zero, List.set_cons_succ]
      refine wpT_take (i := 2) (v := ?_) (by as_aux_lemma => rw [HO3.out]; simp only [List.getElem?_toArray, List.getElem?_cons_succ, List.getElem?_cons_zero]; rfl) (Or.inl ⟨(by rfl), ?_⟩) ?_
      rotate_left
      · as_aux_lemma => intro wx hSx; (try dsimp only at hSx); go_simp; try with_reducible rfl
      try simp only [Act.put, List.setIfInBounds_toArray, List.set_cons_zero, List.set_cons_succ]
      refine wpT_call (i := 3) (by as_aux_lemma => rw [HO3.out]; simp only [List.getElem?_toArray, List.getElem?_cons_succ, List.getElem?_cons_zero]; rfl) (by rfl) (fun K' hK => ?_)
      go_simp
      try simp only [e2]
      refine (HFk.out _).mono ?_
      rintro e w10 ⟨v10, rfl, hQ10, U10⟩
      obtain ⟨s10, A10, n10, c10, B10, m10, d10, rfl⟩ := hQ10.shape
      have HQ10 := Lib.hid hQ10
      have V10 : Up w9 w10 := Up.trans (Up.refl w9).drew U10
      have x10 := x9.up V10
      have s10' := tri x10
      clear hQ10
      go_wp2_with fail
      refine hK.out _ _ s10' (fun _ => ?_)
      clear hK K'
      try simp only [Act.put, List.setIfInBounds_toArray, List.set_cons_zero, List.set_cons_succ]
      refine wpT_call (i := 4) (by as_aux_lemma => rw [HO3.out]; simp only [List.getElem?_toArray, List.getElem?_cons_succ, List.getElem?_cons_zero]; rfl) (by rfl) (fun K' hK => ?_)
      go_simp
      refine (HDi.out _ _ V10 HQ10.out).mono ?_
      rintro e w11 ⟨v11, rfl, hQ11, U11⟩
      obtain ⟨s11, A11, n11, c11, B11, m11, d11, rfl⟩ := hQ11.shape
      have HQ11 := Lib.hid hQ11
      have V11 := V10.trans U11
      have x11 := x9.up V11
      have y11 := y9.up V11
      have z11 := z9.up V11
      have s11' := tri x11
      obtain ⟨k0, k1, k2⟩ := tri x11
      have f0 := x11.frozen 0
      have f1 := x11.frozen 1
      have f2 := x11.frozen 2
      clear hQ11
      go_wp2_with fail
      refine hK.out _ _ s11' (fun _ => ?_)
      clear hK K'
      try simp only [Act.put, List.setIfInBounds_toArray, List.set_cons_zero, List.set_cons_succ]
      refine wpT_take (i := 5) (v := ?_) (by as_aux_lemma => rw [HO3.out]; simp only [List.getElem?_toArray, List.getElem?_cons_succ, List.getElem?_cons_zero]; rfl) (Or.inl ⟨(by rfl), ?_⟩) ?_
      rotate_left
      · as_aux_lemma => intro wx hSx; (try dsimp only at hSx); go_simp; try with_reducible rfl
      try simp only [Act.put, List.setIfInBounds_toArray, List.set_cons_zero, List.set_cons_succ]
      refine wpT_take (i := 6) (v := ?_) (by as_aux_lemma => rw [HO3.out]; simp only [List.getElem?_toArray, List.getElem?_cons_succ, List.getElem?_cons_zero]; rfl) (Or.inl ⟨(by rfl), ?_⟩) ?_
      rotate_left
      · as_aux_lemma => intro wx hSx; (try dsimp only at hSx); go_simp; try with_reducible rfl
      try simp only [Act.put, List.setIfInBounds_toArray, List.set_cons_zero, List.set_cons_succ]
      refine wpT_free (i := 7) (v := ?_) (by as_aux_lemma => rw [HO3.out]; simp only [List.getElem?_toArray, List.getElem?_cons_succ, List.getElem?_cons_zero]; rfl) (Or.inl ⟨(by rfl), ?_⟩) ?_
      rotate_left
      · as_aux_lemma => intro wx hSx; (try dsimp only at hSx); go_simp; try with_reducible rfl
      try simp only [Act.put, List.setIfInBounds_toArray, List.set_cons_zero, List.set_cons_succ]
      refine wpT_tail (i := 8) (by as_aux_lemma => rw [HO3.out]; simp only [List.getElem?_toArray, List.getElem?_cons_succ, List.getElem?_cons_zero]; rfl) (by rfl) (fun K' hK => ?_)
      go_simp
      go_wp2_with fail
      refine hK.out _ _ ?_
      clear hK K'
      try simp only [Act.put, List.setIfInBounds_toArray, List.set_cons_zero, List.set_cons_succ]
      refine wpT_end (NoPanic.normal ?_)
      clear HO3 O3
      have HB8 := Lib.hid (BoxQ.of (t := 0) x11 HQ11.out)
      have hz8 := ((z11.far (p := ⟨g5, 0, none⟩) (by simp; omega) (.bool s11)).far (p := ⟨g5, 1, none⟩) (by simp; omega) (.slice A11 n11 c11)).far (p := ⟨g5, 2, none⟩) (by simp; omega) (.slice B11 m11 d11)
      have hy8 := ((y11.far (p := ⟨g5, 0, none⟩) (by simp; omega) (.bool s11)).far (p := ⟨g5, 1, none⟩) (by simp; omega) (.slice A11 n11 c11)).far (p := ⟨g5, 2, none⟩) (by simp; omega) (.slice B11 m11 d11)
      have U8 := up_tri (g := g5) (V9.trans V11) (by omega) (.bool s11) (.slice A11 n11 c11) (.slice B11 m11 d11)
      go_wp2_with fail
      go_roundw
      case rel => exact ⟨j + 1, by omega, by go_num, Lib.hid ⟨HB8.out, hz8, hy8⟩, U8⟩
      case measure => simp [intOf]; omega
    · have hjk' : j = k := by omega
      subst hjk'
      obtain ⟨bx0, bz, by_⟩ := HB.out
      obtain ⟨sb, Ab, nb, cb, Bb, mb, db, bx, hqb⟩ := bx0
      have HQ := Lib.hid hqb
      obtain ⟨x0, x1, x2⟩ := tri bx
      obtain ⟨o0, o1, o2⟩ := tri bz
      have f0 := bz.frozen 0
      have f1 := bz.frozen 1
      have f2 := bz.frozen 2
      clear hqb
      go_wp2_with fail
      obtain ⟨k0, k1, k2⟩ := tri (tri_set bz (.bool sb) (.slice Ab nb cb) (.slice Bb mb db))
      refine bodyPost_ret (v := .agg #[.bool sb, .slice Ab nb cb, .slice Bb mb db]) ?_ rfl (ret_q bz HQ.out hU (by omega))
      simp [results, Try.results69, go_sem, k0, k1, k2]
end Go.Proofs.Ytkngegcfdabpoaa
