/-
  PI: FAddQ, FSubQ.
-/
import Derived.Test.YtkngegcfdabpoaaPG
import Derived.Test.YtkngegcfdabpoaaPH
import Derived.Test.YtkngegcfdabpoaaPD
/-
  The document's answer, by values: Add.
-/
namespace Go.Proofs.Ytkngegcfdabpoaa
open Go.RowKit

set_option maxRecDepth 100000 in
set_option maxHeartbeats 6400000 in
theorem rAdd_q {v v' : Value} {q r : Rat} {B C : Nat} {w : World} (hf : IV w v q B) (hg : IV w v' r C) (hB : B + C ≤ 8589934580) :
    Calls Try.prog 27 #[v, v'] w (RetQ w (q + r)) := by
  have H1 := Lib.hid (fun wx (u : Up w wx) => rCanonical_q (hf.up u) (by omega))
  have H2 := Lib.hid (fun wx (u : Up w wx) => rCanonical_q (hg.up u) (by omega))
  have S1 := Lib.hid hf.qs
  have S2 := Lib.hid hg.qs
  obtain ⟨s, A, n, c, A', n', c', rfl⟩ := hf.shape
  obtain ⟨t, E, m, d, E', m', d', rfl⟩ := hg.shape
  clear hf hg
  go_enter Try.func27, Try.ntmps27
  go_upto_region 1 with fail
  obtain ⟨w1, hw1⟩ : ∃ w1, w1 = ((w.alloc (Obj.cells #[.bool s, .slice A n c, .slice A' n' c'] 31)).alloc (Obj.cells #[.bool t, .slice E m d, .slice E' m' d'] 31)).alloc (Obj.cells #[.bool false, .slice none 0 0, .slice none 0 0] 31) := ⟨_, rfl⟩
  have U1 : Up w w1 := by rw [hw1]; exact (((Below.refl _ _).alloc (Nat.le_refl _) _).alloc (by simp) _).alloc (by simp; omega) _
  have a1 : Blk w1 w.heap.size 31 #[.bool s, .slice A n c, .slice A' n' c'] := by rw [hw1]; exact ((Blk.new w _ _).alloc _).alloc _
  have b1 : Blk w1 (w.heap.size + 1) 31 #[.bool t, .slice E m d, .slice E' m' d'] := by rw [hw1]; exact (Blk.new' _ _ _ (by simp)).alloc _
  have r1 : Blk w1 (w.heap.size + 2) 31 #[.bool false, .slice none 0 0, .slice none 0 0] := by rw [hw1]; exact Blk.new' _ _ _ (by simp)
  rw [← hw1]
  clear hw1
  go_cut [] (fun wx => CanTwo w q r wx)
  case first =>
    obtain ⟨x0, x1, x2⟩ := tri a1
    obtain ⟨y0, y1, y2⟩ := tri b1
    go_region_with
      (first
        | (go_at_call_of 17 (Value.agg #[.bool s, .slice A n c, .slice A' n' c']); refine (H1.out _ (by exact U1.drew)).mono ?_; rintro e w2 ⟨v2, rfl, hF, UA⟩; obtain ⟨s2', A2, n2, c2, A2', n2', c2', rfl⟩ := hF.shape; have HF := Lib.hid hF; clear hF; have U2 := Up.trans U1.drew UA; have a2 := Blk.up (w := w1.drew) a1 UA; have b2 := Blk.up (w := w1.drew) b1 UA; have r2 := Blk.up (w := w1.drew) r1 UA; obtain ⟨p0, p1, p2⟩ := tri b2)
        | (go_at_call_of 17 (Value.agg #[.bool t, .slice E m d, .slice E' m' d']); refine (H2.out _ (by exact U2)).mono ?_; rintro e w3 ⟨v3, rfl, hG, UB⟩; obtain ⟨s3', A3, n3, c3, A3', n3', c3', rfl⟩ := hG.shape; have HG := Lib.hid hG; clear hG; have HF3 := Lib.hid (HF.out.up UB); have U3 := Up.trans U2 UB; have a3 := Blk.up a2 UB; have b3 := Blk.up b2 UB; have r3 := Blk.up r2 UB; obtain ⟨k0, k1, k2⟩ := tri a3; obtain ⟨l0, l1, l2⟩ := tri b3; have i0 := a3.frozen 0; have i1 := a3.frozen 1; have i2 := a3.frozen 2; have j0 := b3.frozen 0; have j1 := b3.frozen 1; have j2 := b3.frozen 2))
    all_goals
      go_wp2_with fail
      go_meet
      exact canTwo_of a3 b3 r3 HF3.out HG.out U3
  case rest =>
    obtain ⟨s, A, n, c, A', n', c', t, E, m, d, E', m', d', a3, b3, r3, hq, hr, U3⟩ := hcut
    obtain ⟨rfl, rfl, rfl, q1, q2, q3, q4, q5, q6⟩ := hq.opened
    obtain ⟨rfl, rfl, rfl, r1, r2, r3', r4, r5, r6⟩ := hr.opened
    have HS : Hid (decide (q.num < 0) = decide (r.num < 0) → q + r = fq (decide (q.num < 0)) (q.num.natAbs * r.den + r.num.natAbs * q.den) (q.den * r.den)) := by
      refine Lib.hid fun h => ?_
      have h1 := fq_add_same (decide (q.num < 0)) q.num.natAbs q.den r.num.natAbs r.den q.den_nz r.den_nz
      rw [fq_self, h, fq_self] at h1
      rw [h]; exact h1
    have HG : Hid (decide (q.num < 0) ≠ decide (r.num < 0) → r.num.natAbs * q.den ≤ q.num.natAbs * r.den → q + r = fq (decide (q.num < 0)) (q.num.natAbs * r.den - r.num.natAbs * q.den) (q.den * r.den)) := by
      refine Lib.hid fun h h2 => ?_
      have h1 := fq_add_ge (decide (q.num < 0)) (decide (r.num < 0)) q.num.natAbs q.den r.num.natAbs r.den q.den_nz r.den_nz h h2
      rwa [fq_self, fq_self] at h1
    have HL : Hid (decide (q.num < 0) ≠ decide (r.num < 0) → q.num.natAbs * r.den ≤ r.num.natAbs * q.den → q + r = fq (decide (r.num < 0)) (r.num.natAbs * q.den - q.num.natAbs * r.den) (q.den * r.den)) := by
      refine Lib.hid fun h h2 => ?_
      have h1 := fq_add_ge (decide (r.num < 0)) (decide (q.num < 0)) r.num.natAbs r.den q.num.natAbs q.den r.den_nz q.den_nz (Ne.symm h) h2
      rwa [fq_self, fq_self, Rat.add_comm, Nat.mul_comm r.den] at h1
    have hx : ln (q.num.natAbs * r.den) ≤ B + C + 2 := Nat.le_trans (ln_mul _ _) (by have := qs_num q; have := qs_den r; have := S1.out; have := S2.out; omega)
    have hy : ln (r.num.natAbs * q.den) ≤ B + C + 2 := Nat.le_trans (ln_mul _ _) (by have := qs_num r; have := qs_den q; have := S1.out; have := S2.out; omega)
    have hz : ln (q.den * r.den) ≤ B + C + 2 := Nat.le_trans (ln_mul _ _) (by have := qs_den q; have := qs_den r; have := S1.out; have := S2.out; omega)
    have M1 := Lib.hid (fun wx (u : Up wc wx) => natMul_any A c q.num.natAbs E' d' r.den wx (q1.up u) (r2.up u) (by have := qs_num q; have := qs_den r; have := S1.out; have := S2.out; omega))
    have M2 := Lib.hid (fun wx (u : Up wc wx) => natMul_any E d r.num.natAbs A' c' q.den wx (r1.up u) (q2.up u) (by have := qs_den q; have := qs_num r; have := S1.out; have := S2.out; omega))
    have M3 := Lib.hid (fun wx (u : Up wc wx) => natMul_any A' c' q.den E' d' r.den wx (q2.up u) (r2.up u) (by have := qs_den q; have := qs_den r; have := S1.out; have := S2.out; omega))
    obtain ⟨s, hs⟩ : ∃ s, s = decide (q.num < 0) := ⟨_, rfl⟩
    obtain ⟨t, ht'⟩ : ∃ s, s = decide (r.num < 0) := ⟨_, rfl⟩
    rw [← hs] at a3 HS HG HL
    rw [← ht'] at b3 HS HG HL
    obtain ⟨x, hxe⟩ : ∃ x, x = q.num.natAbs * r.den := ⟨_, rfl⟩
    obtain ⟨y, hye⟩ : ∃ x, x = r.num.natAbs * q.den := ⟨_, rfl⟩
    obtain ⟨z, hze⟩ : ∃ x, x = q.den * r.den := ⟨_, rfl⟩
    rw [← hxe] at M1 hx HS HG HL
    rw [← hye] at M2 hy HS HG HL
    rw [← hze] at M3 hz HS HG HL
    obtain ⟨N1, h1⟩ : ∃ s, s = q.num.natAbs := ⟨_, rfl⟩
    obtain ⟨N2, h2⟩ : ∃ s, s = r.num.natAbs := ⟨_, rfl⟩
    obtain ⟨D1, h3⟩ : ∃ s, s = q.den := ⟨_, rfl⟩
    obtain ⟨D2, h4⟩ : ∃ s, s = r.den := ⟨_, rfl⟩
    rw [← h1, ← h3] at a3
    rw [← h2, ← h4] at b3
    rw [← h1, ← h4] at M1
    rw [← h2, ← h3] at M2
    rw [← h3, ← h4] at M3
    clear hs ht' hxe hye hze h1 h2 h3 h4 hq hr q1 q2 q3 q4 q5 q6 r1 r2 r3' r4 r5 r6 S1 S2 H1 H2 a1 b1 U1
    obtain ⟨x0, x1, x2⟩ := tri a3
    obtain ⟨y0, y1, y2⟩ := tri b3
    have s0 := And.intro (tri a3) (tri b3)
    go_wp2_with fail
    go_region_held3 (fun wx => (wx.cell? ⟨w.heap.size, 0, none⟩ = some (.bool s) ∧ wx.cell? ⟨w.heap.size, 1, none⟩ = some (.slice A (ln N1) c) ∧ wx.cell? ⟨w.heap.size, 2, none⟩ = some (.slice A' (ln D1) c')) ∧
        (wx.cell? ⟨w.heap.size + 1, 0, none⟩ = some (.bool t) ∧ wx.cell? ⟨w.heap.size + 1, 1, none⟩ = some (.slice E (ln N2) d) ∧ wx.cell? ⟨w.heap.size + 1, 2, none⟩ = some (.slice E' (ln D2) d')))
      (first | exact s0 | exact s4 | exact s5)
      (first
        | (go_at_call_of 53 (Value.slice A (ln N1) c); refine (M1.out _ (by exact (Up.refl _).drew)).mono ?_; rintro e w4 ⟨X, cx, rfl, n1, n2, n3, U4⟩; have a4 := Blk.up (w := wc.drew) a3 U4; have b4 := Blk.up (w := wc.drew) b3 U4; have r4 := Blk.up (w := wc.drew) r3 U4; have V4 : Up wc w4 := Up.trans (Up.refl wc).drew U4; have s4 := And.intro (tri a4) (tri b4))
        | (go_at_call_of 53 (Value.slice E (ln N2) d); refine (M2.out _ (by exact V4)).mono ?_; rintro e w5 ⟨Y, cy, rfl, m1, m2, m3, U5⟩; have a5 := a4.up U5; have b5 := b4.up U5; have r5 := r4.up U5; have V5 := V4.trans U5; have n5 := n3.up U5; have s5 := And.intro (tri a5) (tri b5)))
    have X5 := Lib.hid n5
    have Y5 := Lib.hid m3
    clear s4 s5 s0 n5 m3 n3 x0 x1 x2 y0 y1 y2 a4 b4 r4 a3 b3 r3 V4 U4 M1 M2
    obtain ⟨x0, x1, x2⟩ := tri a5
    obtain ⟨y0, y1, y2⟩ := tri b5
    go_wp2_with fail
    refine (M3.out _ V5).mono ?_
    rintro e w6 ⟨Z, cz, rfl, z1, z2, z3, U6⟩
    have a6 := a5.up U6
    have b6 := b5.up U6
    have r6 := r5.up U6
    have V6 := U3.trans (V5.trans U6)
    have X6 := Lib.hid (X5.out.up U6)
    have Y6 := Lib.hid (Y5.out.up U6)
    have Z6 := Lib.hid z3
    clear x0 x1 x2 y0 y1 y2 a5 b5 r5 V5 U3 U6 z3 M3
    obtain ⟨x0, x1, x2⟩ := tri a6
    obtain ⟨y0, y1, y2⟩ := tri b6
    by_cases hst : s = t
    · have HV := Lib.hid (HS.out hst)
      have hb : (s == t) = true := by rw [hst]; simp
      have HA := Lib.hid (fun wx (h : Up w6 wx) => natAdd_any X cx x Y cy y wx (X6.out.up h) (Y6.out.up h) (by omega) (by omega))
      have HB := Lib.hid (fun (S : Option Addr) (cs : Nat) (wx : World) (h1 : NS wx S (x + y)) (h2 : NS wx Z z) => build_n (c := cs) (c' := cz) h1 h2 (Nat.le_trans (ln_add x y) (by omega)) (by omega) s)
      rw [← HV.out] at HB
      clear HS HG HL hst HV
      have s0 := x0
      go_wp2_with fail
      go_region_held3 (fun wx => wx.cell? ⟨w.heap.size, 0, none⟩ = some (.bool s))
        (first | exact s0 | exact s4 | exact s5 | exact (tri (((a9.far (by simp <;> omega) _).far (by simp <;> omega) _).far (by simp <;> omega) _)).1)
        (first
          | (go_at_call 54; refine (HA.out _ (by exact (Up.refl _).drew)).mono ?_; rintro e w8 ⟨S, cs, rfl, t1, t2, t3, U8⟩; have V8 : Up w6 w8 := Up.trans (Up.refl w6).drew U8; have a8 := a6.up V8; have r8 := r6.up V8; have s4 := (tri a8).1)
          | (go_at_call 40; refine (HB.out _ _ _ t3 (Z6.out.up V8)).mono ?_; rintro e w9 ⟨v9, rfl, hQ, U9⟩; obtain ⟨s3, A3, n3, c3, A3', n3', c3', rfl⟩ := hQ.shape; have HQ := Lib.hid hQ; clear hQ; have a9 := a8.up U9; have r9 := r8.up U9; have V9 := V8.trans U9; have s5 := (tri a9).1; obtain ⟨g0, g1, g2⟩ := tri r9; have i0 := r9.frozen 0; have i1 := r9.frozen 1; have i2 := r9.frozen 2))
      go_wp2_with fail
      obtain ⟨c0, c1, c2'⟩ := tri (tri_set r9 (.bool s3) (.slice A3 n3 c3) (.slice A3' n3' c3'))
      refine bodyPost_ret (v := .agg #[.bool s3, .slice A3 n3 c3, .slice A3' n3' c3']) ?_ rfl (ret_q r9 HQ.out (V6.trans V9) (by omega))
      simp [results, Try.results27, go_sem, c0, c1, c2']
    · have hb : (s == t) = false := by simpa using hst
      have HC := Lib.hid (natCmp_any X cx x Y cy y w6 X6.out Y6.out (by omega) (by omega))
      have hge : decide (0 ≤ cmpN x y) = decide (y ≤ x) := cmpN_ge
      obtain ⟨k, hk⟩ : ∃ k, k = cmpN x y := ⟨_, rfl⟩
      rw [← hk] at hge HC
      by_cases hxy : y ≤ x
      · rw [decide_eq_true hxy] at hge
        have HV := Lib.hid (HG.out hst hxy)
        have HA := Lib.hid (fun wx (h : Up w6 wx) => natSub_any X cx x Y cy y wx (X6.out.up h) (Y6.out.up h) (by omega) hxy)
        have HB := Lib.hid (fun (S : Option Addr) (cs : Nat) (wx : World) (h1 : NS wx S (x - y)) (h2 : NS wx Z z) => build_n (c := cs) (c' := cz) h1 h2 (Nat.le_trans (ln_mono (Nat.sub_le x y)) (by omega)) (by omega) s)
        rw [← HV.out] at HB
        clear HS HG HL hst HV hk hxy
        go_wp2_with fail
        refine HC.out.mono ?_
        rintro e w7 ⟨rfl, U7⟩
        replace HA := Lib.hid (fun wx (h : Up w7 wx) => HA.out wx (U7.trans h))
        replace Z6 := Lib.hid (Z6.out.up U7)
        replace a6 := a6.up U7
        replace b6 := b6.up U7
        replace r6 := r6.up U7
        replace V6 := V6.trans U7
        clear x0 x1 x2 y0 y1 y2 U7 X6 Y6 HC
        obtain ⟨x0, x1, x2⟩ := tri a6
        obtain ⟨y0, y1, y2⟩ := tri b6
        have s0 := x0
        go_wp2_with fail
        go_region_held3 (fun wx => wx.cell? ⟨w.heap.size, 0, none⟩ = some (.bool s))
          (first | exact s0 | exact s4 | exact s5 | exact (tri (((a9.far (by simp <;> omega) _).far (by simp <;> omega) _).far (by simp <;> omega) _)).1)
          (first
            | (go_at_call 56; refine (HA.out _ (by exact (Up.refl _).drew)).mono ?_; rintro e w8 ⟨S, cs, rfl, t1, t2, t3, U8⟩; have V8 : Up w7 w8 := Up.trans (Up.refl w7).drew U8; have a8 := a6.up V8; have r8 := r6.up V8; have s4 := (tri a8).1)
            | (go_at_call 40; refine (HB.out _ _ _ t3 (Z6.out.up V8)).mono ?_; rintro e w9 ⟨v9, rfl, hQ, U9⟩; obtain ⟨s3, A3, n3, c3, A3', n3', c3', rfl⟩ := hQ.shape; have HQ := Lib.hid hQ; clear hQ; have a9 := a8.up U9; have r9 := r8.up U9; have V9 := V8.trans U9; have s5 := (tri a9).1; obtain ⟨g0, g1, g2⟩ := tri r9; have i0 := r9.frozen 0; have i1 := r9.frozen 1; have i2 := r9.frozen 2))
        go_wp2_with fail
        obtain ⟨c0, c1, c2'⟩ := tri (tri_set r9 (.bool s3) (.slice A3 n3 c3) (.slice A3' n3' c3'))
        refine bodyPost_ret (v := .agg #[.bool s3, .slice A3 n3 c3, .slice A3' n3' c3']) ?_ rfl (ret_q r9 HQ.out (V6.trans V9) (by omega))
        simp [results, Try.results27, go_sem, c0, c1, c2']
      · rw [decide_eq_false hxy] at hge
        have hxy : x ≤ y := by omega
        have HV := Lib.hid (HL.out hst hxy)
        have HA := Lib.hid (fun wx (h : Up w6 wx) => natSub_any Y cy y X cx x wx (Y6.out.up h) (X6.out.up h) (by omega) hxy)
        have HB := Lib.hid (fun (S : Option Addr) (cs : Nat) (wx : World) (h1 : NS wx S (y - x)) (h2 : NS wx Z z) => build_n (c := cs) (c' := cz) h1 h2 (Nat.le_trans (ln_mono (Nat.sub_le y x)) (by omega)) (by omega) t)
        rw [← HV.out] at HB
        clear HS HG HL hst HV hk hxy
        go_wp2_with fail
        refine HC.out.mono ?_
        rintro e w7 ⟨rfl, U7⟩
        replace HA := Lib.hid (fun wx (h : Up w7 wx) => HA.out wx (U7.trans h))
        replace Z6 := Lib.hid (Z6.out.up U7)
        replace a6 := a6.up U7
        replace b6 := b6.up U7
        replace r6 := r6.up U7
        replace V6 := V6.trans U7
        clear x0 x1 x2 y0 y1 y2 U7 X6 Y6 HC
        obtain ⟨x0, x1, x2⟩ := tri a6
        obtain ⟨y0, y1, y2⟩ := tri b6
        have s0 := y0
        go_wp2_with fail
        go_region_held3 (fun wx => wx.cell? ⟨w.heap.size + 1, 0, none⟩ = some (.bool t))
          (first | exact s0 | exact s4 | exact s5 | exact (tri (((b9.far (by simp <;> omega) _).far (by simp <;> omega) _).far (by simp <;> omega) _)).1)
          (first
            | (go_at_call 56; refine (HA.out _ (by exact (Up.refl _).drew)).mono ?_; rintro e w8 ⟨S, cs, rfl, t1, t2, t3, U8⟩; have V8 : Up w7 w8 := Up.trans (Up.refl w7).drew U8; have b8 := b6.up V8; have r8 := r6.up V8; have s4 := (tri b8).1)
            | (go_at_call 40; refine (HB.out _ _ _ t3 (Z6.out.up V8)).mono ?_; rintro e w9 ⟨v9, rfl, hQ, U9⟩; obtain ⟨s3, A3, n3, c3, A3', n3', c3', rfl⟩ := hQ.shape; have HQ := Lib.hid hQ; clear hQ; have b9 := b8.up U9; have r9 := r8.up U9; have V9 := V8.trans U9; have s5 := (tri b9).1; obtain ⟨g0, g1, g2⟩ := tri r9; have i0 := r9.frozen 0; have i1 := r9.frozen 1; have i2 := r9.frozen 2))
        go_wp2_with fail
        obtain ⟨c0, c1, c2'⟩ := tri (tri_set r9 (.bool s3) (.slice A3 n3 c3) (.slice A3' n3' c3'))
        refine bodyPost_ret (v := .agg #[.bool s3, .slice A3 n3 c3, .slice A3' n3' c3']) ?_ rfl (ret_q r9 HQ.out (V6.trans V9) (by omega))
        simp [results, Try.results27, go_sem, c0, c1, c2']
end Go.Proofs.Ytkngegcfdabpoaa

/-
  The document's answer, by values: Sub, Cmp, Small, Floor, Ceil.
-/
namespace Go.Proofs.Ytkngegcfdabpoaa
open Go.RowKit

set_option maxRecDepth 100000 in
set_option maxHeartbeats 6400000 in
theorem rSub_q {v v' : Value} {q r : Rat} {B C : Nat} {w : World} (hf : IV w v q B) (hg : IV w v' r C) (hB : B + C ≤ 8589934570) :
    Calls Try.prog 46 #[v, v'] w (RetQ w (q - r)) := by
  have H2 := Lib.hid (fun wx (u : Up w wx) => rNeg_q (hg.up u) (by omega))
  have H3 := Lib.hid (fun wx vx (u : Up w wx) (h : QV wx vx (-r)) => rAdd_q (hf.up u) (h.iv (B := C + 1) (by rw [qs_neg]; exact hg.qs)) (by omega))
  rw [← Rat.sub_eq_add_neg] at H3
  obtain ⟨s, A, n, c, A', n', c', rfl⟩ := hf.shape
  obtain ⟨t, E, m, d, E', m', d', rfl⟩ := hg.shape
  clear hf hg
  go_enter Try.func46, Try.ntmps46
  go_upto_region 1 with fail
  obtain ⟨w1, hw1⟩ : ∃ w1, w1 = ((w.alloc (Obj.cells #[.bool s, .slice A n c, .slice A' n' c'] 31)).alloc (Obj.cells #[.bool t, .slice E m d, .slice E' m' d'] 31)).alloc (Obj.cells #[.bool false, .slice none 0 0, .slice none 0 0] 31) := ⟨_, rfl⟩
  have U1 : Up w w1 := by rw [hw1]; exact (((Below.refl _ _).alloc (Nat.le_refl _) _).alloc (by simp) _).alloc (by simp; omega) _
  have a1 : Blk w1 w.heap.size 31 #[.bool s, .slice A n c, .slice A' n' c'] := by rw [hw1]; exact ((Blk.new w _ _).alloc _).alloc _
  have b1 : Blk w1 (w.heap.size + 1) 31 #[.bool t, .slice E m d, .slice E' m' d'] := by rw [hw1]; exact (Blk.new' _ _ _ (by simp)).alloc _
  have r1 : Blk w1 (w.heap.size + 2) 31 #[.bool false, .slice none 0 0, .slice none 0 0] := by rw [hw1]; exact Blk.new' _ _ _ (by simp)
  rw [← hw1]
  clear hw1
  have s0 := And.intro (tri a1) (tri b1)
  go_region_held3 (fun wx => (wx.cell? ⟨w.heap.size, 0, none⟩ = some (.bool s) ∧ wx.cell? ⟨w.heap.size, 1, none⟩ = some (.slice A n c) ∧ wx.cell? ⟨w.heap.size, 2, none⟩ = some (.slice A' n' c')) ∧
      (wx.cell? ⟨w.heap.size + 1, 0, none⟩ = some (.bool t) ∧ wx.cell? ⟨w.heap.size + 1, 1, none⟩ = some (.slice E m d) ∧ wx.cell? ⟨w.heap.size + 1, 2, none⟩ = some (.slice E' m' d')))
    (first | exact s0 | exact s4 | exact s5 | exact ⟨tri (((a9.far (by simp <;> omega) _).far (by simp <;> omega) _).far (by simp <;> omega) _), tri (((b9.far (by simp <;> omega) _).far (by simp <;> omega) _).far (by simp <;> omega) _)⟩)
    (first
      | (go_at_call 66; refine (H2.out _ (by exact U1.drew)).mono ?_; rintro e w8 ⟨v8, rfl, hN, U8⟩; obtain ⟨s8, A8, n8, c8, A8', n8', c8', rfl⟩ := hN.shape; have HN := Lib.hid hN; clear hN; have V8 := Up.trans U1.drew U8; have a8 := Blk.up (w := w1.drew) a1 U8; have b8 := Blk.up (w := w1.drew) b1 U8; have r8 := Blk.up (w := w1.drew) r1 U8; have s4 := And.intro (tri a8) (tri b8))
      | (go_at_call 27; refine (H3.out _ _ V8 HN.out).mono ?_; rintro e w9 ⟨v9, rfl, hQ, U9⟩; obtain ⟨s3, A3, n3, c3, A3', n3', c3', rfl⟩ := hQ.shape; have HQ := Lib.hid hQ; clear hQ; have a9 := a8.up U9; have b9 := b8.up U9; have r9 := r8.up U9; have V9 := V8.trans U9; have s5 := And.intro (tri a9) (tri b9); obtain ⟨g0, g1, g2⟩ := tri r9; have i0 := r9.frozen 0; have i1 := r9.frozen 1; have i2 := r9.frozen 2))
  go_wp2_with fail
  obtain ⟨c0, c1, c2'⟩ := tri (tri_set r9 (.bool s3) (.slice A3 n3 c3) (.slice A3' n3' c3'))
  refine bodyPost_ret (v := .agg #[.bool s3, .slice A3 n3 c3, .slice A3' n3' c3']) ?_ rfl (ret_q r9 HQ.out V9 (by omega))
  simp [results, Try.results46, go_sem, c0, c1, c2']

theorem RetQ.alloc {w w' : World} {q : Rat} {e : Ending} (h : RetQ w q e w') (o : Obj) : RetQ w q e (w'.alloc o) := by
  obtain ⟨v, h1, h2, h3⟩ := h
  exact ⟨v, h1, h2.up ((Below.refl _ _).alloc (Nat.le_refl _) _), h3.alloc h3.size _⟩

end Go.Proofs.Ytkngegcfdabpoaa
