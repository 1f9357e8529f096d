/-
  Rational numbers as values: Floor, Ceil.
-/
import Derived.Test.YtoedmnalnpmleaaRCmp
namespace Go.Proofs.Ytoedmnalnpmleaa
open Go.RowKit

/-- The integer beside q: below it for -1, above it for 1. -/
def rndQ (q : Rat) (away : Int) : Rat := if away = -1 then (q.floor : Rat) else (q.ceil : Rat)
theorem fq_one (s : Bool) (n : Nat) : fq s n 1 = if s = true then ((-(n : Int) : Int) : Rat) else ((n : Int) : Rat) := by
  cases s
  · rw [if_neg (by simp), fq_nat]; rfl
  · rw [if_pos rfl, show fq true n 1 = - fq false n 1 from by rw [fq_neg]; rfl, fq_nat]; simp; rfl
theorem fq_ceil {s : Bool} {n d : Nat} (hd : d ≠ 0) : (fq s n d).ceil = if s = true then -((n / d : Nat) : Int) else ((n / d : Nat) : Int) + (if n % d = 0 then 0 else 1) := by
  rw [Rat.ceil_eq_neg_floor_neg, fq_neg, fq_floor hd]
  generalize n / d = k
  cases s
  · show -(-(k : Int) - (if n % d = 0 then 0 else 1)) = (k : Int) + (if n % d = 0 then 0 else 1)
    split <;> omega
  · rfl
theorem rnd_up {q : Rat} {s : Bool} {n d : Nat} {away : Int} (hq : q = fq s n d) (hd : d ≠ 0) (ha : away = -1 ∨ away = 1) (h1 : n % d ≠ 0) (h2 : sgn q = away) : fq s (n / d + 1) 1 = rndQ q away := by
  have hn : n ≠ 0 := by rintro rfl; simp at h1
  rw [hq, sgn_fq s n d hd, if_neg hn] at h2
  unfold rndQ
  rw [hq, fq_one, fq_floor hd, fq_ceil hd, if_neg h1]
  generalize n / d = k
  cases s
  · have : away = 1 := h2.symm
    subst this
    rw [if_neg (show ¬ ((1 : Int) = -1) by omega)]
    rfl
  · have : away = -1 := h2.symm
    subst this
    rw [if_pos rfl]
    show ((-((k + 1 : Nat) : Int) : Int) : Rat) = ((-(k : Int) - 1 : Int) : Rat)
    congr 1
    omega
theorem rnd_no {q : Rat} {s : Bool} {n d : Nat} {away : Int} (hq : q = fq s n d) (hd : d ≠ 0) (ha : away = -1 ∨ away = 1) (h : n % d = 0 ∨ sgn q ≠ away) : fq s (n / d) 1 = rndQ q away := by
  by_cases h1 : n % d = 0
  · unfold rndQ
    rw [hq, fq_one, fq_floor hd, fq_ceil hd, if_pos h1]
    generalize n / d = k
    cases s
    · rcases ha with rfl | rfl
      · rw [if_pos rfl]; rfl
      · rw [if_neg (show ¬ ((1 : Int) = -1) by omega)]
        show ((k : Int) : Rat) = (((k : Int) + 0 : Int) : Rat)
        congr 1
    · rcases ha with rfl | rfl
      · rw [if_pos rfl]
        show ((-(k : Int) : Int) : Rat) = ((-(k : Int) - 0 : Int) : Rat)
        congr 1
        omega
      · rw [if_neg (show ¬ ((1 : Int) = -1) by omega)]; rfl
  · have h2 := h.resolve_left h1
    have hn : n ≠ 0 := by rintro rfl; simp at h1
    rw [hq, sgn_fq s n d hd, if_neg hn] at h2
    unfold rndQ
    rw [hq, fq_one, fq_floor hd, fq_ceil hd]
    generalize n / d = k
    cases s
    · rcases ha with rfl | rfl
      · rw [if_pos rfl]; rfl
      · exact absurd rfl h2
    · rcases ha with rfl | rfl
      · exact absurd rfl h2
      · rw [if_neg (show ¬ ((1 : Int) = -1) by omega)]; rfl

set_option maxRecDepth 100000 in
set_option maxHeartbeats 6400000 in
theorem rounded_q {v : Value} {q : Rat} {B : Nat} {w : World} (h : IV w v q B) (hB : B ≤ 8589934590) (away : Int) (ha : away = -1 ∨ away = 1) :
    Calls Try.prog 30 #[v, .int .i64 away] w (RetQ w (rndQ q away)) := by
  have H := Lib.hid (fun wx (u : Up w wx) => load_q (h.up u) (by omega))
  obtain ⟨s, A, n, c, A', n', c', rfl⟩ := h.shape
  clear h
  go_enter Try.func30, Try.ntmps30
  go_wp2_with fail
  obtain ⟨w1, hw1⟩ : ∃ w1, w1 = (w.alloc (Obj.cells #[.bool s, .slice A n c, .slice A' n' c'] 24)).alloc (Obj.cells #[.bool false, .slice none 0 0, .slice none 0 0] 24) := ⟨_, rfl⟩
  have U1 : Up w w1 := by rw [hw1]; exact ((Below.refl _ _).alloc (Nat.le_refl _) _).alloc (by simp) _
  have r1 : Blk w1 (w.heap.size + 1) 24 #[.bool false, .slice none 0 0, .slice none 0 0] := by rw [hw1]; exact Blk.new' _ _ _ (by simp)
  rw [← hw1]
  clear hw1
  refine (H.out w1 U1).mono ?_
  rintro e w2 ⟨v2, rfl, hF, hU2⟩
  obtain ⟨s2, A2, n2, c2, A2', n2', c2', rfl⟩ := hF.shape
  have HF := Lib.hid hF
  have U2 := U1.trans hU2
  have r2 := r1.up hU2
  have z2 := r2.lt
  clear hF hU2 r1 U1
  go_wp2_with fail
  obtain ⟨w3, hw3⟩ : ∃ w3, w3 = w2.alloc (Obj.cells #[.bool s2, .slice A2 n2 c2, .slice A2' n2' c2'] 41) := ⟨_, rfl⟩
  have u3 : Up w2 w3 := by rw [hw3]; exact (Below.refl _ _).alloc (Nat.le_refl _) _
  have b3 : Blk w3 w2.heap.size 41 #[.bool s2, .slice A2 n2 c2, .slice A2' n2' c2'] := by rw [hw3]; exact Blk.new _ _ _
  have F := HF.out.up u3
  have U3 := U2.trans u3
  have r3 := r2.up u3
  rw [← hw3]
  clear hw3 U2 r2 u3 HF
  obtain ⟨g, hg⟩ : ∃ g, g = w2.heap.size := ⟨_, rfl⟩
  rw [← hg] at b3 z2 ⊢
  clear hg
  have S1 := Lib.hid (fun wx (h : Up w3 wx) => fsign_q (F.up h) (by omega))
  obtain ⟨N, D, rfl, rfl, p1, p2, p3, p4, p5, p6, _⟩ := F.opened
  have HUp := Lib.hid (fun h1 h2 => rnd_up p6 p3 ha h1 h2)
  have HNo := Lib.hid (fun h1 => rnd_no p6 p3 ha h1)
  have HD := Lib.hid (divide_any A2 c2 N A2' c2' D w3 p1 p2 (by omega) (by omega) p3)
  have hsb := sgn_bd q
  have hq1 : ln (N / D) ≤ B + 1 := Nat.le_trans (ln_div _ _) p4
  have hr1 : ln (N % D) ≤ 17592186044416 := Nat.le_trans (ln_mono (Nat.mod_le N D)) (by omega)
  have hr2 : ln (N % D) = 0 ↔ N % D = 0 := ln_eq_zero
  obtain ⟨Q, hQ⟩ : ∃ Q, Q = N / D := ⟨_, rfl⟩
  obtain ⟨R, hR⟩ : ∃ R, R = N % D := ⟨_, rfl⟩
  obtain ⟨σ, hσ⟩ : ∃ σ, σ = sgn q := ⟨_, rfl⟩
  obtain ⟨qq, hqq⟩ : ∃ qq, qq = rndQ q away := ⟨_, rfl⟩
  rw [← hQ] at HUp HNo HD hq1
  rw [← hR] at HUp HNo HD hr1 hr2
  rw [← hσ] at HUp HNo S1 hsb
  rw [← hqq] at HUp HNo
  have HQQ := Lib.hid hqq
  have HR2 := Lib.hid hr2
  clear F p1 p2 p3 p4 p5 p6 hQ hR hσ hqq hr2 H
  obtain ⟨d0, d1, d2⟩ := tri b3
  go_wp2_with fail
  refine HD.out.mono ?_
  rintro e w4 ⟨X, cx, Y, cy, rfl, x1, x2, y1, y2, x3, y3, hU4⟩
  have U4 := U3.trans hU4
  have b4 := b3.up hU4
  have r4 := r3.up hU4
  have S4 := Lib.hid (fun wx (h : Up w4 wx) => S1.out wx (hU4.trans h))
  have X4 := Lib.hid (And.intro x3 (And.intro x1 x2))
  clear hU4 d0 d1 d2 b3 r3 U3 HD S1 x1 x2 x3 y1 y2 y3
  obtain ⟨d0, d1, d2⟩ := tri b4
  have z4 := r4.lt
  have u4 := U4.size
  -- what follows the test, for the quotient P in a world behind it
  have tailP : ∀ (P : Nat) (wx : World) (Z : Option Addr) (cz : Nat), Up w4 wx → NS wx Z P → ln P ≤ cz → cz ≤ 9223372036854775807 → ln P ≤ B + 2 → fq s2 P 1 = qq →
      FQ (wx.alloc (Obj.cells #[Value.int IntKind.u32 1] 36)) (.agg #[.bool s2, .slice Z (ln P) cz, .slice (some ⟨wx.heap.size, 0, none⟩) 1 1]) qq (B + 2) := by
    intro P wx Z cz hu k1 k2 k3 k4 k5
    refine ⟨s2, P, 1, ⟨Z, cz, some ⟨wx.heap.size, 0, none⟩, 1, by rw [ln_one], k1.up ((Below.refl _ _).alloc (Nat.le_refl _) _), ?_, k2, k3, by rw [ln_one]; omega, by omega⟩, by omega, k4, by rw [ln_one]; omega, k5.symm⟩
    have hd : zs (digs 1) = [1] := by rw [digs_small (by omega) (by omega)]; rfl
    unfold NS
    rw [hd]
    exact SI.blk _ (Blk.new wx 36 _) (by simp)
  have HT := Lib.hid tailP
  clear tailP
  by_cases hR0 : R = 0
  · have HN := Lib.hid (HNo.out (.inl hR0))
    have ht : decide (0 < ln R) = false := by rw [HR2.out.2 hR0]; rfl
    clear hR0
    go_wp2_with fail
    refine (store_q (HT.out (Q) w4 X cx (Up.refl w4) X4.out.1 X4.out.2.1 X4.out.2.2 (by omega) HN.out) (by omega)).mono ?_
    rintro e w6 ⟨v5, rfl, hQ, hU8⟩
    obtain ⟨s5', B5, n5, d5, B5', n5', d5', rfl⟩ := hQ.shape
    have HR := Lib.hid hQ
    have hU6 : Up w4 w6 := Up.trans ((Below.refl _ _).alloc (Nat.le_refl _) _) hU8
    clear hQ
    have r6 := r4.up hU6
    obtain ⟨g0, g1', g2'⟩ := tri r6
    have i0 := r6.frozen 0
    have i1 := r6.frozen 1
    have i2 := r6.frozen 2
    have z6 := r6.lt
    go_wp2_with fail
    obtain ⟨c0, c1, c2'⟩ := tri (tri_set r6 (.bool s5') (.slice B5 n5 d5) (.slice B5' n5' d5'))
    rw [← HQQ.out]
    refine bodyPost_ret (v := .agg #[.bool s5', .slice B5 n5 d5, .slice B5' n5' d5']) ?_ rfl (ret_q r6 HR.out (U4.trans ((Up.refl w4).trans hU6)) (by omega))
    simp [results, Try.results30, go_sem, c0, c1, c2']
  · have ht : decide (0 < ln R) = true := by simp; exact Nat.pos_of_ne_zero fun h => hR0 (HR2.out.1 h)
    by_cases hsa : σ = away
    · have HN := Lib.hid (HUp.out hR0 hsa)
      have HAd := Lib.hid (fun wx (h : Up w4 wx) (Z : Option Addr) (hz : NS wx Z 1) => add_any X cx Q Z 1 1 wx (X4.out.1.up h) hz (by omega) (by rw [ln_one]; omega))
      have hlq := ln_add Q 1
      rw [ln_one] at HAd hlq
      have hta : (σ == away) = true := by simp [hsa]
      clear hR0 hsa
      go_wp2_with fail
      refine (S4.out w4 (Up.refl w4)).mono ?_
      rintro e w5 ⟨rfl, hU5⟩
      have b5 := b4.up hU5
      have r5 := r4.up hU5
      obtain ⟨y0, y1, y2⟩ := tri b5
      have z5 := r5.lt
      go_wp2_with fail
      have hN1 : NS (w5.alloc (Obj.cells #[Value.int IntKind.u32 1] 36)) (some ⟨w5.heap.size, 0, none⟩) 1 := by
        have hd : zs (digs 1) = [1] := by rw [digs_small (by omega) (by omega)]; rfl
        unfold NS
        rw [hd]
        exact SI.blk _ (Blk.new w5 36 _) (by simp)
      have u5 : Up w5 (w5.alloc (Obj.cells #[Value.int IntKind.u32 1] 36)) := (Below.refl _ _).alloc (Nat.le_refl _) _
      refine (HAd.out _ (hU5.trans u5) _ hN1).mono ?_
      rintro e w7 ⟨Z, cz, rfl, k1, k2, k3, hU7⟩
      have U7 : Up w4 w7 := (hU5.trans u5).trans hU7
      have b7 := b4.up U7
      have r7 := r4.up U7
      obtain ⟨v0, v1, v2⟩ := tri b7
      have z7 := r7.lt
      clear y0 y1 y2 hN1 u5 hU7
      go_wp2_with fail
      refine (store_q (HT.out (Q + 1) w7 Z cz U7 k3 k1 k2 (by omega) HN.out) (by omega)).mono ?_
      rintro e w6 ⟨v5, rfl, hQ, hU8⟩
      obtain ⟨s5', B5, n5, d5, B5', n5', d5', rfl⟩ := hQ.shape
      have HR := Lib.hid hQ
      have hU6 : Up w7 w6 := Up.trans ((Below.refl _ _).alloc (Nat.le_refl _) _) hU8
      clear hQ
      have r6 := r7.up hU6
      obtain ⟨g0, g1', g2'⟩ := tri r6
      have i0 := r6.frozen 0
      have i1 := r6.frozen 1
      have i2 := r6.frozen 2
      have z6 := r6.lt
      go_wp2_with fail
      obtain ⟨c0, c1, c2'⟩ := tri (tri_set r6 (.bool s5') (.slice B5 n5 d5) (.slice B5' n5' d5'))
      rw [← HQQ.out]
      refine bodyPost_ret (v := .agg #[.bool s5', .slice B5 n5 d5, .slice B5' n5' d5']) ?_ rfl (ret_q r6 HR.out (U4.trans (U7.trans hU6)) (by omega))
      simp [results, Try.results30, go_sem, c0, c1, c2']
    · have HN := Lib.hid (HNo.out (.inr hsa))
      have hta : (σ == away) = false := by simp [hsa]
      clear hR0 hsa
      go_wp2_with fail
      refine (S4.out w4 (Up.refl w4)).mono ?_
      rintro e w5 ⟨rfl, hU5⟩
      have b5 := b4.up hU5
      have r5 := r4.up hU5
      obtain ⟨y0, y1, y2⟩ := tri b5
      have z5 := r5.lt
      go_wp2_with fail
      refine (store_q (HT.out (Q) w5 X cx hU5 (X4.out.1.up hU5) X4.out.2.1 X4.out.2.2 (by omega) HN.out) (by omega)).mono ?_
      rintro e w6 ⟨v5, rfl, hQ, hU8⟩
      obtain ⟨s5', B5, n5, d5, B5', n5', d5', rfl⟩ := hQ.shape
      have HR := Lib.hid hQ
      have hU6 : Up w5 w6 := Up.trans ((Below.refl _ _).alloc (Nat.le_refl _) _) hU8
      clear hQ
      have r6 := r5.up hU6
      obtain ⟨g0, g1', g2'⟩ := tri r6
      have i0 := r6.frozen 0
      have i1 := r6.frozen 1
      have i2 := r6.frozen 2
      have z6 := r6.lt
      go_wp2_with fail
      obtain ⟨c0, c1, c2'⟩ := tri (tri_set r6 (.bool s5') (.slice B5 n5 d5) (.slice B5' n5' d5'))
      rw [← HQQ.out]
      refine bodyPost_ret (v := .agg #[.bool s5', .slice B5 n5 d5, .slice B5' n5' d5']) ?_ rfl (ret_q r6 HR.out (U4.trans (hU5.trans hU6)) (by omega))
      simp [results, Try.results30, go_sem, c0, c1, c2']

theorem floor_q {v : Value} {q : Rat} {B : Nat} {w : World} (h : IV w v q B) (hB : B ≤ 8589934590) : Calls Try.prog 18 #[v] w (RetQ w (q.floor : Rat)) := by
  have H := Lib.hid (fun wx (u : Up w wx) => rounded_q (h.up u) hB (-1) (.inl rfl))
  obtain ⟨s, A, n, c, A', n', c', rfl⟩ := h.shape
  clear h
  go_enter Try.func18, Try.ntmps18
  go_wp2_with fail
  obtain ⟨w1, hw1⟩ : ∃ w1, w1 = (w.alloc (Obj.cells #[.bool s, .slice A n c, .slice A' n' c'] 24)).alloc (Obj.cells #[.bool false, .slice none 0 0, .slice none 0 0] 24) := ⟨_, rfl⟩
  have U1 : Up w w1 := by rw [hw1]; exact ((Below.refl _ _).alloc (Nat.le_refl _) _).alloc (by simp) _
  have r1 : Blk w1 (w.heap.size + 1) 24 #[.bool false, .slice none 0 0, .slice none 0 0] := by rw [hw1]; exact Blk.new' _ _ _ (by simp)
  rw [← hw1]
  clear hw1
  refine (H.out w1 U1).mono ?_
  rintro e w6 ⟨v5, rfl, hQ, hU8⟩
  obtain ⟨s5', B5, n5, d5, B5', n5', d5', rfl⟩ := hQ.shape
  rw [rndQ, if_pos rfl] at hQ
  have HR := Lib.hid hQ
  clear hQ
  have r6 := r1.up hU8
  obtain ⟨g0, g1', g2'⟩ := tri r6
  have i0 := r6.frozen 0
  have i1 := r6.frozen 1
  have i2 := r6.frozen 2
  have z6 := r6.lt
  go_wp2_with fail
  obtain ⟨c0, c1, c2'⟩ := tri (tri_set r6 (.bool s5') (.slice B5 n5 d5) (.slice B5' n5' d5'))
  refine bodyPost_ret (v := .agg #[.bool s5', .slice B5 n5 d5, .slice B5' n5' d5']) ?_ rfl (ret_q r6 HR.out (U1.trans hU8) (by omega))
  simp [results, Try.results18, go_sem, c0, c1, c2']
theorem ceil_q {v : Value} {q : Rat} {B : Nat} {w : World} (h : IV w v q B) (hB : B ≤ 8589934590) : Calls Try.prog 19 #[v] w (RetQ w (q.ceil : Rat)) := by
  have H := Lib.hid (fun wx (u : Up w wx) => rounded_q (h.up u) hB 1 (.inr rfl))
  obtain ⟨s, A, n, c, A', n', c', rfl⟩ := h.shape
  clear h
  go_enter Try.func19, Try.ntmps19
  go_wp2_with fail
  obtain ⟨w1, hw1⟩ : ∃ w1, w1 = (w.alloc (Obj.cells #[.bool s, .slice A n c, .slice A' n' c'] 24)).alloc (Obj.cells #[.bool false, .slice none 0 0, .slice none 0 0] 24) := ⟨_, rfl⟩
  have U1 : Up w w1 := by rw [hw1]; exact ((Below.refl _ _).alloc (Nat.le_refl _) _).alloc (by simp) _
  have r1 : Blk w1 (w.heap.size + 1) 24 #[.bool false, .slice none 0 0, .slice none 0 0] := by rw [hw1]; exact Blk.new' _ _ _ (by simp)
  rw [← hw1]
  clear hw1
  refine (H.out w1 U1).mono ?_
  rintro e w6 ⟨v5, rfl, hQ, hU8⟩
  obtain ⟨s5', B5, n5, d5, B5', n5', d5', rfl⟩ := hQ.shape
  rw [rndQ, if_neg (by omega)] at hQ
  have HR := Lib.hid hQ
  clear hQ
  have r6 := r1.up hU8
  obtain ⟨g0, g1', g2'⟩ := tri r6
  have i0 := r6.frozen 0
  have i1 := r6.frozen 1
  have i2 := r6.frozen 2
  have z6 := r6.lt
  go_wp2_with fail
  obtain ⟨c0, c1, c2'⟩ := tri (tri_set r6 (.bool s5') (.slice B5 n5 d5) (.slice B5' n5' d5'))
  refine bodyPost_ret (v := .agg #[.bool s5', .slice B5 n5 d5, .slice B5' n5' d5']) ?_ rfl (ret_q r6 HR.out (U1.trans hU8) (by omega))
  simp [results, Try.results19, go_sem, c0, c1, c2']
end Go.Proofs.Ytoedmnalnpmleaa
