/-
  The contract of the document's Format: the text of the number.
-/
import Derived.Test.YtefiapjfiojaoaaDoorNFormat
namespace Go.Proofs.YtefiapjfiojaoaaDoor
open Go Go.RowKit

theorem natText_t (A : Option Addr) (cap x : Nat) (w : World) (hr : NS w A x) (hl : ln x ≤ 1000) :
    Calls Tryd.prog 34 #[.slice A (ln x) cap] w fun e w' => ∃ R : ByteArray, e = .returned (.string R) ∧ R.data.toList = Lib.decDigits x ∧ R.size ≤ 9000 ∧ Up w w' :=
  (natText_any A cap x w hr hl).mono fun e w' ⟨h1, h2⟩ => ⟨_, h1, by simp, by rw [Lib.size_eq]; simp; exact dec_len9 x hl, h2⟩
theorem rIntegral_d {v : Value} {q : Rat} {B D : Nat} {w : World} (h : IV w v q B) (hB : B ≤ 8589934590) (hD : D = q.den) : Calls Tryd.prog 35 #[v] w fun e w' => e = .returned (.bool (D == 1)) ∧ Up w w' := by
  rw [hD]; exact rIntegral_q h hB

set_option maxRecDepth 100000 in
set_option maxHeartbeats 3200000 in
theorem rFormat_q {v : Value} {q : Rat} {B : Nat} {w : World} (h : IV w v q B) (hB : B ≤ 100) :
    Calls Tryd.prog 17 #[v] w fun e w' => e = .returned (.string ⟨(ftext q).toArray⟩) ∧ Up w w' := by
  obtain ⟨s, A, n, c, A', n', c', rfl⟩ := h.shape
  have H := Lib.hid (fun wx (u : Up w wx) => rCanonical_q (h.up u) (show B ≤ 8589934590 by omega))
  have hqs := h.qs
  rw [ftext_eq]
  obtain ⟨T, hT⟩ : ∃ T, T = ftext3 (decide (q.num < 0)) q.num.natAbs q.den := ⟨_, rfl⟩
  rw [← hT]
  have HTT := Lib.hid hT
  clear hT
  clear h
  go_enter Tryd.func17, Tryd.ntmps17
  go_wp2_with fail
  obtain ⟨w1, hw1⟩ : ∃ w1, w1 = w.alloc (Obj.cells #[.bool s, .slice A n c, .slice A' n' c'] 24) := ⟨_, rfl⟩
  have U1 : Up w w1 := by rw [hw1]; exact (Below.refl _ _).alloc (Nat.le_refl _) _
  have r1 : Blk w1 w.heap.size 24 #[.bool s, .slice A n c, .slice A' n' c'] := by rw [hw1]; exact Blk.new' _ _ _ rfl
  rw [← hw1]
  clear hw1
  refine (H.out w1 U1).mono ?_
  rintro e w3 ⟨v3, rfl, hQ, hU3⟩
  obtain ⟨s3, A3, n3, c3, A3', n3', c3', rfl⟩ := hQ.shape
  have hQ' := hQ
  obtain ⟨rfl, rfl, rfl, hnum, hden, _⟩ := hQ'.opened
  have U3 := U1.trans hU3
  have r3 := r1.up hU3
  have l1 : ln q.num.natAbs ≤ 1000 := Nat.le_trans (qs_num q) (by omega)
  have l2 : ln q.den ≤ 1000 := Nat.le_trans (qs_den q) (by omega)
  have KP := Lib.hid (Kp.tri (s' := decide (q.num < 0)) (C := A3) (m := ln q.num.natAbs) (d := c3) (C' := A3') (m' := ln q.den) (d' := c3') (Kp.refl w3) r3)
  have UT := Lib.hid (up_tri U3 (Nat.le_refl _) (.bool (decide (q.num < 0))) (.slice A3 (ln q.num.natAbs) c3) (.slice A3' (ln q.den) c3'))
  have RT := Lib.hid (tri_set r3 (.bool (decide (q.num < 0))) (.slice A3 (ln q.num.natAbs) c3) (.slice A3' (ln q.den) c3'))
  have HQ := Lib.hid hQ
  obtain ⟨d0, d1, d2⟩ := tri r3
  have f0 := r3.frozen 0
  have f1 := r3.frozen 1
  have f2 := r3.frozen 2
  have z3 := r3.lt
  clear hQ hQ' H r1 r3 hU3 U1 U3
  obtain ⟨sg, hsg⟩ : ∃ b, b = decide (q.num < 0) := ⟨_, rfl⟩
  obtain ⟨N, hN⟩ : ∃ b, b = q.num.natAbs := ⟨_, rfl⟩
  obtain ⟨D, hD⟩ : ∃ b, b = q.den := ⟨_, rfl⟩
  rw [← hsg, ← hN, ← hD] at KP UT RT HQ HTT ⊢
  rw [← hN] at hnum l1
  rw [← hD] at hden l2
  have HDD := Lib.hid hD
  have HN := Lib.hid hnum
  have HD := Lib.hid hden
  obtain ⟨g, hg⟩ : ∃ g, g = w.heap.size := ⟨_, rfl⟩
  rw [← hg] at KP UT RT d0 d1 d2 f0 f1 f2 z3 ⊢
  clear hsg hN hD hnum hden hg
  go_wp2_with fail
  obtain ⟨w4, hw4⟩ : ∃ w4, w4 = ((w3.setCell ⟨g, 0, none⟩ (.bool sg)).setCell ⟨g, 1, none⟩ (.slice A3 (ln N) c3)).setCell ⟨g, 2, none⟩ (.slice A3' (ln D) c3') := ⟨_, rfl⟩
  rw [← hw4] at KP UT RT
  rw [← hw4]
  clear d0 d1 d2 f0 f1 f2 z3 hw4
  refine (natText_t A3 c3 N w4 (HN.out.kp KP.out) l1).mono ?_
  rintro e w5 ⟨R, rfl, hR, hR9, U5⟩
  have b5 := RT.out.up U5
  have HQ5 := Lib.hid ((HQ.out.kp KP.out).up U5)
  have HD5 := Lib.hid ((HD.out.kp KP.out).up U5)
  have HU5 := Lib.hid (UT.out.trans U5)
  have HR := Lib.hid hR
  obtain ⟨d0, d1, d2⟩ := tri b5
  clear HN HD HQ KP UT RT U5 hR
  cases sg with
  | true =>
    have hd : Hid (T = [45] ++ (Lib.decDigits N ++ (if D = 1 then [] else 47 :: Lib.decDigits D))) := Lib.hid (by rw [HTT.out]; unfold ftext3; rw [if_pos rfl])
    go_wp2_with fail
    refine (rIntegral_d (HQ5.out.iv hqs) (by omega) HDD.out).mono ?_
    rintro e w6 ⟨rfl, U6⟩
    have b6 := b5.up U6
    have HD6 := Lib.hid (HD5.out.up U6)
    have HU6 := Lib.hid (HU5.out.trans U6)
    clear d0 d1 d2 U6 b5
    obtain ⟨d0, d1, d2⟩ := tri b6
    by_cases h1 : D = 1
    · have hb : (D == 1) = true := beq_iff_eq.2 h1
      have hd1 := hd.out
      rw [if_pos h1] at hd1
      have HD1 := Lib.hid hd1
      rw [hb]
      clear hd1 h1 hb
      go_wp2_with fail
      go_ret
      exact ⟨ret_str (by rw [HD1.out, bytes_app, HR.out]; simp), HU6.out⟩
    · have hb : (D == 1) = false := beq_eq_false_iff_ne.2 h1
      have hd1 := hd.out
      rw [if_neg h1] at hd1
      have HD1 := Lib.hid hd1
      rw [hb]
      clear hd1 h1 hb
      go_wp2_with fail
      refine (natText_t A3' c3' D w6 HD6.out l2).mono ?_
      rintro e w7 ⟨R2, rfl, hR2, hR29, U7⟩
      have HR2 := Lib.hid hR2
      have HU7 := Lib.hid (HU6.out.trans U7)
      clear hR2 U7
      go_wp2_with fail
      go_ret
      exact ⟨ret_str (by rw [HD1.out, bytes_app, bytes_app, bytes_app, HR.out, HR2.out]; simp), HU7.out⟩
  | false =>
    have hd : Hid (T = (Lib.decDigits N ++ (if D = 1 then [] else 47 :: Lib.decDigits D))) := Lib.hid (by rw [HTT.out]; unfold ftext3; rw [if_neg Bool.false_ne_true]; rfl)
    go_wp2_with fail
    refine (rIntegral_d (HQ5.out.iv hqs) (by omega) HDD.out).mono ?_
    rintro e w6 ⟨rfl, U6⟩
    have b6 := b5.up U6
    have HD6 := Lib.hid (HD5.out.up U6)
    have HU6 := Lib.hid (HU5.out.trans U6)
    clear d0 d1 d2 U6 b5
    obtain ⟨d0, d1, d2⟩ := tri b6
    by_cases h1 : D = 1
    · have hb : (D == 1) = true := beq_iff_eq.2 h1
      have hd1 := hd.out
      rw [if_pos h1] at hd1
      have HD1 := Lib.hid hd1
      rw [hb]
      clear hd1 h1 hb
      go_wp2_with fail
      go_ret
      exact ⟨ret_str (by rw [HD1.out, HR.out]; simp), HU6.out⟩
    · have hb : (D == 1) = false := beq_eq_false_iff_ne.2 h1
      have hd1 := hd.out
      rw [if_neg h1] at hd1
      have HD1 := Lib.hid hd1
      rw [hb]
      clear hd1 h1 hb
      go_wp2_with fail
      refine (natText_t A3' c3' D w6 HD6.out l2).mono ?_
      rintro e w7 ⟨R2, rfl, hR2, hR29, U7⟩
      have HR2 := Lib.hid hR2
      have HU7 := Lib.hid (HU6.out.trans U7)
      clear hR2 U7
      go_wp2_with fail
      go_ret
      exact ⟨ret_str (by rw [HD1.out, bytes_app, bytes_app, HR.out, HR2.out]; simp), HU7.out⟩
end Go.Proofs.YtefiapjfiojaoaaDoor
