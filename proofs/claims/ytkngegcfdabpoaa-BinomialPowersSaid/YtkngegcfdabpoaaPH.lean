/-
  PH: FDivQ.
-/
import Derived.Test.YtkngegcfdabpoaaPG
import Derived.Test.YtkngegcfdabpoaaPD
/-
  The document's answer, by values: Div.
-/
namespace Go.Proofs.Ytkngegcfdabpoaa
open Go.RowKit

set_option maxRecDepth 100000 in
set_option maxHeartbeats 6400000 in
theorem rDiv_q {v v' : Value} {q r : Rat} {B C : Nat} {w : World} (hf : IV w v q B) (hg : IV w v' r C) (hB : B + C ≤ 8589934580) :
    Calls Try.prog 45 #[v, v'] w (RetQB w (q / r) (decide (r ≠ 0))) := by
  have H1 := Lib.hid (fun wx (u : Up w wx) => rCanonical_q (hf.up u) (by omega))
  have H2 := Lib.hid (fun wx (u : Up w wx) => rCanonical_q (hg.up u) (by omega))
  have S1 := Lib.hid hf.qs
  have S2 := Lib.hid hg.qs
  obtain ⟨s, A, n, c, A', n', c', rfl⟩ := hf.shape
  obtain ⟨t, E, m, d, E', m', d', rfl⟩ := hg.shape
  clear hf hg
  go_enter Try.func45, Try.ntmps45
  go_upto_region 1 with fail
  obtain ⟨w1, hw1⟩ : ∃ w1, w1 = ((w.alloc (Obj.cells #[.bool s, .slice A n c, .slice A' n' c'] 31)).alloc (Obj.cells #[.bool t, .slice E m d, .slice E' m' d'] 31)).alloc (Obj.cells #[.bool false, .slice none 0 0, .slice none 0 0] 31) := ⟨_, rfl⟩
  have U1 : Up w w1 := by rw [hw1]; exact (((Below.refl _ _).alloc (Nat.le_refl _) _).alloc (by simp) _).alloc (by simp; omega) _
  have a1 : Blk w1 w.heap.size 31 #[.bool s, .slice A n c, .slice A' n' c'] := by rw [hw1]; exact ((Blk.new w _ _).alloc _).alloc _
  have b1 : Blk w1 (w.heap.size + 1) 31 #[.bool t, .slice E m d, .slice E' m' d'] := by rw [hw1]; exact (Blk.new' _ _ _ (by simp)).alloc _
  have r1 : Blk w1 (w.heap.size + 2) 31 #[.bool false, .slice none 0 0, .slice none 0 0] := by rw [hw1]; exact Blk.new' _ _ _ (by simp)
  rw [← hw1]
  clear hw1
  go_cut [] (fun wx => CanTwo w q r wx)
  case first =>
    obtain ⟨x0, x1, x2⟩ := tri a1
    obtain ⟨y0, y1, y2⟩ := tri b1
    go_region_with
      (first
        | (go_at_call_of 17 (Value.agg #[.bool s, .slice A n c, .slice A' n' c']); refine (H1.out _ (by exact U1.drew)).mono ?_; rintro e w2 ⟨v2, rfl, hF, UA⟩; obtain ⟨s2', A2, n2, c2, A2', n2', c2', rfl⟩ := hF.shape; have HF := Lib.hid hF; clear hF; have U2 := Up.trans U1.drew UA; have a2 := Blk.up (w := w1.drew) a1 UA; have b2 := Blk.up (w := w1.drew) b1 UA; have r2 := Blk.up (w := w1.drew) r1 UA; obtain ⟨p0, p1, p2⟩ := tri b2)
        | (go_at_call_of 17 (Value.agg #[.bool t, .slice E m d, .slice E' m' d']); refine (H2.out _ (by exact U2)).mono ?_; rintro e w3 ⟨v3, rfl, hG, UB⟩; obtain ⟨s3', A3, n3, c3, A3', n3', c3', rfl⟩ := hG.shape; have HG := Lib.hid hG; clear hG; have HF3 := Lib.hid (HF.out.up UB); have U3 := Up.trans U2 UB; have a3 := Blk.up a2 UB; have b3 := Blk.up b2 UB; have r3 := Blk.up r2 UB; obtain ⟨k0, k1, k2⟩ := tri a3; obtain ⟨l0, l1, l2⟩ := tri b3; have i0 := a3.frozen 0; have i1 := a3.frozen 1; have i2 := a3.frozen 2; have j0 := b3.frozen 0; have j1 := b3.frozen 1; have j2 := b3.frozen 2))
    all_goals
      go_wp2_with fail
      go_meet
      exact canTwo_of a3 b3 r3 HF3.out HG.out U3
  case rest =>
    obtain ⟨s, A, n, c, A', n', c', t, E, m, d, E', m', d', a3, b3, r3, hq, hr, U3⟩ := hcut
    obtain ⟨rfl, rfl, rfl, q1, q2, q3, q4, q5, q6⟩ := hq.opened
    obtain ⟨rfl, rfl, rfl, r1, r2, r3', r4, r5, r6⟩ := hr.opened
    by_cases hr0 : r.num.natAbs = 0
    · have hz : r = 0 := Rat.num_eq_zero.1 (by omega)
      have HR0 := Lib.hid (show decide (r ≠ 0) = false by simp [hz])
      have HV := Lib.hid (show q / r = ((0 : Int) : Rat) by rw [hz, Rat.div_def]; simp)
      have ht : (((ln r.num.natAbs : Nat) : Int) == 0) = true := by rw [hr0, ln_zero]; rfl
      have ht2 : (ln r.num.natAbs == 0) = true := by rw [hr0, ln_zero]; rfl
      obtain ⟨N2, h2⟩ : ∃ s, s = ln r.num.natAbs := ⟨_, rfl⟩
      have hN2 : N2 ≤ 9223372036854775807 := by omega
      rw [← h2] at b3 ht ht2
      obtain ⟨s, hs⟩ : ∃ s, s = decide (q.num < 0) := ⟨_, rfl⟩
      obtain ⟨t, ht'⟩ : ∃ s, s = decide (r.num < 0) := ⟨_, rfl⟩
      rw [← hs] at a3
      rw [← ht'] at b3
      clear hr0 hz h2 hs ht' hq hr q1 q2 q3 q4 q5 q6 r1 r2 r3' r4 r5 r6 S1 S2 H1 H2 a1 b1 U1
      obtain ⟨x0, x1, x2⟩ := tri a3
      obtain ⟨y0, y1, y2⟩ := tri b3
      go_wp2_with fail
      refine (rFromInt_q 0 (by omega) (by omega)).mono ?_
      rintro e w6 ⟨v6, rfl, hQ, U6⟩
      obtain ⟨s3, A3, n3', c3, A3', n3'', c3', rfl⟩ := hQ.shape
      rw [← HV.out] at hQ
      have HQ := Lib.hid hQ
      have r6 := r3.up U6
      obtain ⟨g0, g1, g2⟩ := tri r6
      have i0 := r6.frozen 0
      have i1 := r6.frozen 1
      have i2 := r6.frozen 2
      clear hQ
      go_wp2_with fail
      obtain ⟨c0, c1, c2'⟩ := tri (tri_set r6 (.bool s3) (.slice A3 n3' c3) (.slice A3' n3'' c3'))
      refine bodyPost_ret (v := .tuple #[.agg #[.bool s3, .slice A3 n3' c3, .slice A3' n3'' c3'], .bool false]) ?_ rfl (by rw [HR0.out]; exact ret_qb r6 HQ.out (U3.trans U6) (by omega))
      simp [results, Try.results45, go_sem, c0, c1, c2']
    have HR0 := Lib.hid (show decide (r ≠ 0) = true by simp; rintro rfl; exact hr0 rfl)
    have ht : (((ln r.num.natAbs : Nat) : Int) == 0) = false := by simp; exact fun h => hr0 (ln_eq_zero.1 h)
    have ht2 : (ln r.num.natAbs == 0) = false := by simp; exact fun h => hr0 (ln_eq_zero.1 h)
    have e : q / r = fq (decide (q.num < 0) != decide (r.num < 0)) (q.num.natAbs * r.den) (q.den * r.num.natAbs) := by
      rw [← fq_over, fq_self, fq_self]
    have hl1 : ln (q.num.natAbs * r.den) ≤ 8589934592 := Nat.le_trans (ln_mul _ _) (by have := qs_num q; have := qs_den r; have := S1.out; have := S2.out; omega)
    have hl2 : ln (q.den * r.num.natAbs) ≤ 8589934592 := Nat.le_trans (ln_mul _ _) (by have := qs_den q; have := qs_num r; have := S1.out; have := S2.out; omega)
    have M1 := Lib.hid (fun wx (u : Up wc wx) => natMul_any A c q.num.natAbs E' d' r.den wx (q1.up u) (r2.up u) (by have := qs_num q; have := qs_den r; have := S1.out; have := S2.out; omega))
    have M2 := Lib.hid (fun wx (u : Up wc wx) => natMul_any A' c' q.den E d r.num.natAbs wx (q2.up u) (r1.up u) (by have := qs_den q; have := qs_num r; have := S1.out; have := S2.out; omega))
    have M3 := Lib.hid (fun (X Y : Option Addr) (cx cy : Nat) (wx : World) (h1 : NS wx X (q.num.natAbs * r.den)) (h2 : NS wx Y (q.den * r.num.natAbs)) => build_n (c := cx) (c' := cy) h1 h2 hl1 hl2 (decide (q.num < 0) != decide (r.num < 0)))
    rw [← e] at M3
    obtain ⟨s, hs⟩ : ∃ s, s = decide (q.num < 0) := ⟨_, rfl⟩
    obtain ⟨t, ht'⟩ : ∃ s, s = decide (r.num < 0) := ⟨_, rfl⟩
    rw [← hs] at a3 M3
    rw [← ht'] at b3 M3
    obtain ⟨N1, h1⟩ : ∃ s, s = q.num.natAbs := ⟨_, rfl⟩
    obtain ⟨N2, h2⟩ : ∃ s, s = r.num.natAbs := ⟨_, rfl⟩
    obtain ⟨D1, h3⟩ : ∃ s, s = q.den := ⟨_, rfl⟩
    obtain ⟨D2, h4⟩ : ∃ s, s = r.den := ⟨_, rfl⟩
    rw [← h1, ← h3] at a3
    rw [← h2, ← h4] at b3
    rw [← h1, ← h4] at M1 M3
    rw [← h3, ← h2] at M2 M3
    rw [← h2] at ht ht2 r3'
    have hN2 : ln N2 ≤ 9223372036854775807 := by omega
    clear hr0 hs ht' h1 h2 h3 h4 e hl1 hl2 hq hr q1 q2 q3 q4 q5 q6 r1 r2 r3' r4 r5 r6 S1 S2 H1 H2 a1 b1 U1
    obtain ⟨x0, x1, x2⟩ := tri a3
    obtain ⟨y0, y1, y2⟩ := tri b3
    have s0 := And.intro (tri a3) (tri b3)
    go_wp2_with fail
    go_region_held3 (fun wx => (wx.cell? ⟨w.heap.size, 0, none⟩ = some (.bool s) ∧ wx.cell? ⟨w.heap.size, 1, none⟩ = some (.slice A (ln N1) c) ∧ wx.cell? ⟨w.heap.size, 2, none⟩ = some (.slice A' (ln D1) c')) ∧
        (wx.cell? ⟨w.heap.size + 1, 0, none⟩ = some (.bool t) ∧ wx.cell? ⟨w.heap.size + 1, 1, none⟩ = some (.slice E (ln N2) d) ∧ wx.cell? ⟨w.heap.size + 1, 2, none⟩ = some (.slice E' (ln D2) d')))
      (first | exact s0 | exact s4 | exact s5 | exact s6 | exact s7)
      (first
        | (go_at_call_of 53 (Value.slice A (ln N1) c); refine (M1.out _ (by exact (Up.refl _).drew)).mono ?_; rintro e w4 ⟨X, cx, rfl, n1, n2, n3, U4⟩; have a4 := Blk.up (w := wc.drew) a3 U4; have b4 := Blk.up (w := wc.drew) b3 U4; have r4 := Blk.up (w := wc.drew) r3 U4; have V4 : Up wc w4 := Up.trans (Up.refl wc).drew U4; have s4 := And.intro (tri a4) (tri b4))
        | (go_at_call_of 53 (Value.slice A' (ln D1) c'); refine (M2.out _ (by exact V4)).mono ?_; rintro e w5 ⟨Y, cy, rfl, m1, m2, m3, U5⟩; have a5 := a4.up U5; have b5 := b4.up U5; have r5 := r4.up U5; have V5 := V4.trans U5; have n5 := n3.up U5; have s5 := And.intro (tri a5) (tri b5))
        | (go_at_call 40; refine (M3.out _ _ _ _ _ n5 m3).mono ?_; rintro e w6 ⟨v6, rfl, hQ, U6⟩; obtain ⟨s3, A3, n3', c3, A3', n3'', c3', rfl⟩ := hQ.shape; have HQ := Lib.hid hQ; clear hQ; have a6 := a5.up U6; have b6 := b5.up U6; have r6 := r5.up U6; have V6 := V5.trans U6; have s6 := And.intro (tri a6) (tri b6); obtain ⟨g0, g1, g2⟩ := tri r6; have i0 := r6.frozen 0; have i1 := r6.frozen 1; have i2 := r6.frozen 2; have s7 := And.intro (tri (((a6.far (p := ⟨w.heap.size + 2, 0, none⟩) (by simp) (.bool s3)).far (p := ⟨w.heap.size + 2, 1, none⟩) (by simp) (.slice A3 n3' c3)).far (p := ⟨w.heap.size + 2, 2, none⟩) (by simp) (.slice A3' n3'' c3'))) (tri (((b6.far (p := ⟨w.heap.size + 2, 0, none⟩) (by simp) (.bool s3)).far (p := ⟨w.heap.size + 2, 1, none⟩) (by simp) (.slice A3 n3' c3)).far (p := ⟨w.heap.size + 2, 2, none⟩) (by simp) (.slice A3' n3'' c3')))))
    go_wp2_with fail
    obtain ⟨c0, c1, c2'⟩ := tri (tri_set r6 (.bool s3) (.slice A3 n3' c3) (.slice A3' n3'' c3'))
    refine bodyPost_ret (v := .tuple #[.agg #[.bool s3, .slice A3 n3' c3, .slice A3' n3'' c3'], .bool true]) ?_ rfl (by rw [HR0.out]; exact ret_qb r6 HQ.out (U3.trans V6) (by omega))
    simp [results, Try.results45, go_sem, c0, c1, c2']
end Go.Proofs.Ytkngegcfdabpoaa
