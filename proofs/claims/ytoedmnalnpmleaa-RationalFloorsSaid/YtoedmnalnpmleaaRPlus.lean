/-
  Rational numbers as values: plus.
-/
import Derived.Test.YtoedmnalnpmleaaRKeep
namespace Go.Proofs.Ytoedmnalnpmleaa
open Go.RowKit

set_option maxRecDepth 100000 in
set_option maxHeartbeats 6400000 in
theorem plus_q {v v' : Value} {q r : Rat} {B C : Nat} {w : World} (hf : FQ w v q B) (hg : FQ w v' r C) (hB : B + C ≤ 17179869182) :
    Calls Try.prog 27 #[v, v'] w (RetFQ w (q + r) (B + C + 1)) := by
  obtain ⟨s, n, d, ⟨A, ca, A', ca', rfl, n1, n2, k1, k2, k3, k4⟩, hd, hn, hdl, hq⟩ := hf
  obtain ⟨t, m, e, ⟨E, ce, E', ce', rfl, m1, m2, l1, l2, l3, l4⟩, he, hm, hel, hr⟩ := hg
  have M1 := Lib.hid (fun wx (h : Up w wx) => multiply_any A ca n E' ce' e wx (n1.up h) (m2.up h) (by omega))
  have M2 := Lib.hid (fun wx (h : Up w wx) => multiply_any E ce m A' ca' d wx (m1.up h) (n2.up h) (by omega))
  have M3 := Lib.hid (fun wx (h : Up w wx) => multiply_any A' ca' d E' ce' e wx (n2.up h) (m2.up h) (by omega))
  have hx : ln (n * e) ≤ B + C := Nat.le_trans (ln_mul n e) (by omega)
  have hy : ln (m * d) ≤ B + C := Nat.le_trans (ln_mul m d) (by omega)
  have hz : ln (d * e) ≤ B + C := Nat.le_trans (ln_mul d e) (by omega)
  have hz0 : d * e ≠ 0 := Nat.mul_ne_zero hd he
  have HS : Hid (s = t → q + r = fq s (n * e + m * d) (d * e)) := by
    rw [hq, hr]; intro h; subst h; exact fq_add_same s n d m e hd he
  have HG : Hid (s ≠ t → m * d ≤ n * e → q + r = fq s (n * e - m * d) (d * e)) := by
    rw [hq, hr]; intro h h2; exact fq_add_ge s t n d m e hd he h h2
  have HL : Hid (s ≠ t → n * e ≤ m * d → q + r = fq t (m * d - n * e) (d * e)) := by
    rw [hq, hr]; intro h h2; rw [Rat.add_comm, Nat.mul_comm d e]; exact fq_add_ge t s m e n d he hd (Ne.symm h) h2
  obtain ⟨x, hxe⟩ : ∃ x, x = n * e := ⟨_, rfl⟩
  obtain ⟨y, hye⟩ : ∃ x, x = m * d := ⟨_, rfl⟩
  obtain ⟨z, hze⟩ : ∃ x, x = d * e := ⟨_, rfl⟩
  rw [← hxe, ← hye, ← hze] at HS HG HL
  rw [← hxe] at M1 hx
  rw [← hye] at M2 hy
  rw [← hze] at M3 hz hz0
  have HZ0 := Lib.hid hz0
  clear hxe hye hze n1 n2 k1 k2 k3 k4 m1 m2 l1 l2 l3 l4 hd hn hdl he hm hel hq hr hz0
  go_enter Try.func27, Try.ntmps27
  go_wp2_with fail
  obtain ⟨w1, hw1⟩ : ∃ w1, w1 = ((w.alloc (Obj.cells #[.bool s, .slice A (ln n) ca, .slice A' (ln d) ca'] 41)).alloc (Obj.cells #[.bool t, .slice E (ln m) ce, .slice E' (ln e) ce'] 41)).alloc (Obj.cells #[.bool false, .slice none 0 0, .slice none 0 0] 41) := ⟨_, rfl⟩
  have U1 : Up w w1 := by rw [hw1]; exact (((Below.refl _ _).alloc (Nat.le_refl _) _).alloc (by simp) _).alloc (by simp; omega) _
  have a1 : Blk w1 w.heap.size 41 #[.bool s, .slice A (ln n) ca, .slice A' (ln d) ca'] := by rw [hw1]; exact ((Blk.new w _ _).alloc _).alloc _
  have b1 : Blk w1 (w.heap.size + 1) 41 #[.bool t, .slice E (ln m) ce, .slice E' (ln e) ce'] := by rw [hw1]; exact (Blk.new' _ _ _ (by simp)).alloc _
  have r1 : Blk w1 (w.heap.size + 2) 41 #[.bool false, .slice none 0 0, .slice none 0 0] := by rw [hw1]; exact Blk.new' _ _ _ (by simp)
  rw [← hw1]
  clear hw1
  have s0 := And.intro (tri a1) (tri b1)
  go_region_held3 (fun wx => (wx.cell? ⟨w.heap.size, 0, none⟩ = some (.bool s) ∧ wx.cell? ⟨w.heap.size, 1, none⟩ = some (.slice A (ln n) ca) ∧ wx.cell? ⟨w.heap.size, 2, none⟩ = some (.slice A' (ln d) ca')) ∧
      (wx.cell? ⟨w.heap.size + 1, 0, none⟩ = some (.bool t) ∧ wx.cell? ⟨w.heap.size + 1, 1, none⟩ = some (.slice E (ln m) ce) ∧ wx.cell? ⟨w.heap.size + 1, 2, none⟩ = some (.slice E' (ln e) ce')))
    (first | exact s0 | exact s2 | exact s3)
    (first
      | (go_at_call_of 25 (Value.slice A (ln n) ca); refine (M1.out _ (by exact U1.drew)).mono ?_; rintro e w2 ⟨X, cx, rfl, x1, x2, x3, hb2⟩; have U2 := Up.trans U1.drew hb2; have a2 := Blk.up (w := w1.drew) a1 hb2; have b2 := Blk.up (w := w1.drew) b1 hb2; have r2 := Blk.up (w := w1.drew) r1 hb2; have s2 := And.intro (tri a2) (tri b2))
      | (go_at_call_of 25 (Value.slice E (ln m) ce); refine (M2.out _ (by exact U2)).mono ?_; rintro e w3 ⟨Y, cy, rfl, y1, y2, y3, hb3⟩; have U3 := Up.trans U2 hb3; have a3 := Blk.up a2 hb3; have b3 := Blk.up b2 hb3; have r3 := Blk.up r2 hb3; have s3 := And.intro (tri a3) (tri b3)))
  have X3 := Lib.hid (x3.up hb3)
  have Y3 := Lib.hid y3
  have XC := Lib.hid (And.intro x1 x2)
  have YC := Lib.hid (And.intro y1 y2)
  clear hb2 hb3 s2 a2 b2 r2 x3 y3 x1 x2 y1 y2 s0 U1 U2 a1 b1 r1 M1 M2
  obtain ⟨⟨p0, p1, p2⟩, o0, o1, o2⟩ := s3
  go_wp2_with fail
  refine (M3.out w3 U3).mono ?_
  rintro e w4 ⟨Z, cz, rfl, z1, z2, z3, hb4⟩
  have U4 := U3.trans hb4
  have a4 := a3.up hb4
  have b4 := b3.up hb4
  have r4 := r3.up hb4
  have X4 := Lib.hid (X3.out.up hb4)
  have Y4 := Lib.hid (Y3.out.up hb4)
  have Z4 := Lib.hid z3
  have ZC := Lib.hid (And.intro z1 z2)
  clear p0 p1 p2 o0 o1 o2 z3 z1 z2 X3 Y3 M3 a3 b3 r3 U3 hb4
  obtain ⟨p0, p1, p2⟩ := tri a4
  obtain ⟨o0, o1, o2⟩ := tri b4
  obtain ⟨d0, d1, d2⟩ := tri r4
  have f0 := r4.frozen 0
  have f1 := r4.frozen 1
  have f2 := r4.frozen 2
  have l4 := r4.lt
  have u4 := U4.size
  by_cases hst : s = t
  · have HV := Lib.hid (HS.out hst)
    have hb : (s == t) = true := by rw [hst]; simp
    clear HS HG HL hst
    have HA := Lib.hid (fun wx (h : Up w4 wx) => add_any X cx x Y cy y wx (X4.out.up h) (Y4.out.up h) (by omega) (by omega))
    go_wp2_with fail
    go_region_held3 (fun wx => wx.cell? ⟨w.heap.size, 0, none⟩ = some (.bool s))
      (first | exact p0 | exact q0 | exact (tri (((a5.far (by simp <;> omega) _).far (by simp <;> omega) _).far (by simp <;> omega) _)).1)
      (first
        | (go_at_call 36; refine (HA.out _ (by exact (Up.refl w4).drew)).mono ?_; rintro e w5 ⟨S, cs, rfl, t1, t2, t3, hb5⟩; have hb5' : Up w4 w5 := Up.trans (Up.refl w4).drew hb5; have a5 := a4.up hb5'; have r5 := r4.up hb5'; obtain ⟨q0, _q1, _q2⟩ := tri a5; obtain ⟨g0, g1, g2⟩ := tri r5; have i0 := r5.frozen 0; have i1 := r5.frozen 1; have i2 := r5.frozen 2))
    go_wp2_with fail
    have HQ : FQ w5 (.agg #[.bool s, .slice S (ln (x + y)) cs, .slice Z (ln z) cz]) (q + r) (B + C + 1) :=
      ⟨_, _, _, ⟨_, _, _, _, rfl, t3, Z4.out.up hb5', t1, t2, ZC.out.1, ZC.out.2⟩, HZ0.out, Nat.le_trans (ln_add x y) (by omega), by omega, HV.out⟩
    obtain ⟨c0, c1, c2'⟩ := tri (tri_set r5 (.bool s) (.slice S (ln (x + y)) cs) (.slice Z (ln z) cz))
    refine bodyPost_ret (v := .agg #[.bool s, .slice S (ln (x + y)) cs, .slice Z (ln z) cz]) ?_ rfl (ret_fq r5 HQ (U4.trans hb5') (by omega))
    simp [results, Try.results27, go_sem, c0, c1, c2']
  · have hb : (s == t) = false := by simpa using hst
    have HC := Lib.hid (fun wx (h : Up w4 wx) => compare_any X cx x Y cy y wx (X4.out.up h) (Y4.out.up h) (by omega) (by omega))
    by_cases hxy : y ≤ x
    · have HV := Lib.hid (HG.out hst hxy)
      have hge : decide (0 ≤ cmpN x y) = true := by
        simp
        unfold cmpN
        rw [if_neg (by omega)]
        split <;> omega
      obtain ⟨k, hk⟩ : ∃ k, k = cmpN x y := ⟨_, rfl⟩
      rw [← hk] at hge HC
      clear HS HG HL hst hk
      have HXY := Lib.hid hxy
      clear hxy
      go_wp2_with fail
      refine (HC.out w4 (Up.refl w4)).mono ?_
      rintro e w6 ⟨rfl, hb45⟩
      have U6 := U4.trans hb45
      have a6 := a4.up hb45
      have b6 := b4.up hb45
      have r6 := r4.up hb45
      have X6 := Lib.hid (X4.out.up hb45)
      have Y6 := Lib.hid (Y4.out.up hb45)
      have Z6 := Lib.hid (Z4.out.up hb45)
      clear p0 p1 p2 o0 o1 o2 d0 d1 d2 f0 f1 f2 U4 a4 b4 r4 X4 Y4 Z4 hb45
      obtain ⟨p0, p1, p2⟩ := tri a6
      obtain ⟨o0, o1, o2⟩ := tri b6
      obtain ⟨d0, d1, d2⟩ := tri r6
      have f0 := r6.frozen 0
      have f1 := r6.frozen 1
      have f2 := r6.frozen 2
      have u6 := U6.size
      have HA := Lib.hid (fun wx (h : Up w6 wx) => subtract_any X cx x Y cy y wx (X6.out.up h) (Y6.out.up h) (by omega) HXY.out)
      go_wp2_with fail
      go_region_held3 (fun wx => wx.cell? ⟨w.heap.size, 0, none⟩ = some (.bool s))
        (first | exact p0 | exact q0 | exact (tri (((a5.far (by simp <;> omega) _).far (by simp <;> omega) _).far (by simp <;> omega) _)).1)
        (first
          | (go_at_call 37; refine (HA.out _ (by exact (Up.refl w6).drew)).mono ?_; rintro e w5 ⟨S, cs, rfl, t1, t2, t3, hb5⟩; have hb5' : Up w6 w5 := Up.trans (Up.refl w6).drew hb5; have a5 := a6.up hb5'; have r5 := r6.up hb5'; obtain ⟨q0, _q1, _q2⟩ := tri a5; obtain ⟨g0, g1, g2⟩ := tri r5; have i0 := r5.frozen 0; have i1 := r5.frozen 1; have i2 := r5.frozen 2))
      go_wp2_with fail
      have HQ : FQ w5 (.agg #[.bool s, .slice S (ln (x - y)) cs, .slice Z (ln z) cz]) (q + r) (B + C + 1) :=
        ⟨_, _, _, ⟨_, _, _, _, rfl, t3, Z6.out.up hb5', t1, t2, ZC.out.1, ZC.out.2⟩, HZ0.out, Nat.le_trans (ln_mono (Nat.sub_le x y)) (by omega), by omega, HV.out⟩
      obtain ⟨c0, c1, c2'⟩ := tri (tri_set r5 (.bool s) (.slice S (ln (x - y)) cs) (.slice Z (ln z) cz))
      refine bodyPost_ret (v := .agg #[.bool s, .slice S (ln (x - y)) cs, .slice Z (ln z) cz]) ?_ rfl (ret_fq r5 HQ (U6.trans hb5') (by omega))
      simp [results, Try.results27, go_sem, c0, c1, c2']
    · have hyx : x ≤ y := by omega
      have HV := Lib.hid (HL.out hst hyx)
      have hge : decide (0 ≤ cmpN x y) = false := by
        simp
        unfold cmpN
        rw [if_pos (by omega)]
        omega
      obtain ⟨k, hk⟩ : ∃ k, k = cmpN x y := ⟨_, rfl⟩
      rw [← hk] at hge HC
      clear HS HG HL hst hk
      have HXY := Lib.hid hyx
      clear hxy hyx
      go_wp2_with fail
      refine (HC.out w4 (Up.refl w4)).mono ?_
      rintro e w6 ⟨rfl, hb45⟩
      have U6 := U4.trans hb45
      have a6 := a4.up hb45
      have b6 := b4.up hb45
      have r6 := r4.up hb45
      have X6 := Lib.hid (X4.out.up hb45)
      have Y6 := Lib.hid (Y4.out.up hb45)
      have Z6 := Lib.hid (Z4.out.up hb45)
      clear p0 p1 p2 o0 o1 o2 d0 d1 d2 f0 f1 f2 U4 a4 b4 r4 X4 Y4 Z4 hb45
      obtain ⟨p0, p1, p2⟩ := tri a6
      obtain ⟨o0, o1, o2⟩ := tri b6
      obtain ⟨d0, d1, d2⟩ := tri r6
      have f0 := r6.frozen 0
      have f1 := r6.frozen 1
      have f2 := r6.frozen 2
      have u6 := U6.size
      have HA := Lib.hid (fun wx (h : Up w6 wx) => subtract_any Y cy y X cx x wx (Y6.out.up h) (X6.out.up h) (by omega) HXY.out)
      go_wp2_with fail
      go_region_held3 (fun wx => wx.cell? ⟨w.heap.size + 1, 0, none⟩ = some (.bool t))
        (first | exact o0 | exact q0 | exact (tri (((a5.far (by simp <;> omega) _).far (by simp <;> omega) _).far (by simp <;> omega) _)).1)
        (first
          | (go_at_call 37; refine (HA.out _ (by exact (Up.refl w6).drew)).mono ?_; rintro e w5 ⟨S, cs, rfl, t1, t2, t3, hb5⟩; have hb5' : Up w6 w5 := Up.trans (Up.refl w6).drew hb5; have a5 := b6.up hb5'; have r5 := r6.up hb5'; obtain ⟨q0, _q1, _q2⟩ := tri a5; obtain ⟨g0, g1, g2⟩ := tri r5; have i0 := r5.frozen 0; have i1 := r5.frozen 1; have i2 := r5.frozen 2))
      go_wp2_with fail
      have HQ : FQ w5 (.agg #[.bool t, .slice S (ln (y - x)) cs, .slice Z (ln z) cz]) (q + r) (B + C + 1) :=
        ⟨_, _, _, ⟨_, _, _, _, rfl, t3, Z6.out.up hb5', t1, t2, ZC.out.1, ZC.out.2⟩, HZ0.out, Nat.le_trans (ln_mono (Nat.sub_le y x)) (by omega), by omega, HV.out⟩
      obtain ⟨c0, c1, c2'⟩ := tri (tri_set r5 (.bool t) (.slice S (ln (y - x)) cs) (.slice Z (ln z) cz))
      refine bodyPost_ret (v := .agg #[.bool t, .slice S (ln (y - x)) cs, .slice Z (ln z) cz]) ?_ rfl (ret_fq r5 HQ (U6.trans hb5') (by omega))
      simp [results, Try.results27, go_sem, c0, c1, c2']
end Go.Proofs.Ytoedmnalnpmleaa
