/-
  The contract of rational.Format: the text of the number.
-/
import Derived.Test.YtefiapjfiojaoaaDoorNDigits
import Derived.Test.YtefiapjfiojaoaaDoorFText
import Derived.Test.YtefiapjfiojaoaaDoorPD
import Derived.Test.YtefiapjfiojaoaaDoorPF
namespace Go.Proofs.YtefiapjfiojaoaaDoor
open Go Go.RowKit

def ftext3 (s : Bool) (n d : Nat) : List UInt8 := (if s = true then [45] else []) ++ (Lib.decDigits n ++ (if d = 1 then [] else 47 :: Lib.decDigits d))
theorem ftext_eq (q : Rat) : ftext q = ftext3 (decide (q.num < 0)) q.num.natAbs q.den := by
  unfold ftext ftext3
  by_cases h : q.num < 0
  · rw [if_pos h, decide_eq_true h, if_pos rfl]
  · rw [if_neg h, decide_eq_false h, if_neg Bool.false_ne_true]
theorem str_eq {S : ByteArray} {l : List UInt8} (h : S.data.toList = l) : S = ⟨l.toArray⟩ := by subst h; simp
theorem ret_str {S : ByteArray} {l : List UInt8} (h : S.data.toList = l) : Ending.returned (.string S) = Ending.returned (.string ⟨l.toArray⟩) := by rw [str_eq h]
theorem dec_len_gen (x M : Nat) (h : 9 * ln x ≤ M) (hM : 1 ≤ M) : (Lib.decDigits x).length ≤ M := dec_len_le hM (by
  refine Nat.lt_of_lt_of_le (lt_pow_ln x) ?_
  rw [show (1000000000 : Nat) = 10 ^ 9 from rfl, ← Nat.pow_mul]
  exact Nat.pow_le_pow_right (by omega) (by omega))
theorem dec_len9 (x : Nat) (h : ln x ≤ 1000) : (Lib.decDigits x).length ≤ 9000 := dec_len_gen x 9000 (by omega) (by omega)
theorem digits_t (A : Option Addr) (cap x : Nat) (w : World) (hr : NS w A x) (hl : ln x ≤ 1000) (htab : TabW w) :
    Calls Tryd.prog 28 #[.slice A (ln x) cap] w fun e w' => ∃ R : ByteArray, e = .returned (.string R) ∧ R.data.toList = Lib.decDigits x ∧ R.size ≤ 9000 ∧ Up w w' :=
  (digits_any A cap x w hr hl htab).mono fun e w' ⟨h1, h2⟩ => ⟨_, h1, by simp, by rw [Lib.size_eq]; simp; exact dec_len9 x hl, h2⟩

set_option maxRecDepth 100000 in
set_option maxHeartbeats 3200000 in
theorem format_q {v : Value} {q : Rat} {B : Nat} {w : World} (h : IV w v q B) (hB : B ≤ 100) (htab : TabW w) :
    Calls Tryd.prog 14 #[v] w fun e w' => e = .returned (.string ⟨(ftext q).toArray⟩) ∧ Up w w' := by
  have H := Lib.hid (fun wx (u : Up w wx) => load_q (h.up u) (by omega))
  have hqs := h.qs
  obtain ⟨s, A, n, c, A', n', c', rfl⟩ := h.shape
  have HT := Lib.hid htab
  rw [ftext_eq]
  obtain ⟨T, hT⟩ : ∃ T, T = ftext3 (decide (q.num < 0)) q.num.natAbs q.den := ⟨_, rfl⟩
  rw [← hT]
  have HTT := Lib.hid hT
  clear hT
  clear h htab
  go_enter Tryd.func14, Tryd.ntmps14
  go_wp2_with fail
  have U1 : Up w (w.alloc (Obj.cells #[.bool s, .slice A n c, .slice A' n' c'] 24)) := (Below.refl _ _).alloc (Nat.le_refl _) _
  refine (H.out _ U1).mono ?_
  rintro e w2 ⟨v2, rfl, hF, hU2⟩
  obtain ⟨s2, A2, n2, c2, A2', n2', c2', rfl⟩ := hF.shape
  have HF := Lib.hid hF
  have U2 := U1.trans hU2
  clear hF hU2 U1
  go_wp2_with fail
  refine (lowest_q HF.out (by omega)).mono ?_
  rintro e w3 ⟨v3, rfl, hQ, hU3⟩
  obtain ⟨s3, A3, n3, c3, A3', n3', c3', rfl⟩ := hQ.shape
  obtain ⟨rfl, rfl, rfl, hnum, hden, _⟩ := hQ.opened
  have U3 := U2.trans hU3
  have l1 : ln q.num.natAbs ≤ 1000 := Nat.le_trans (qs_num q) (by omega)
  have l2 : ln q.den ≤ 1000 := Nat.le_trans (qs_den q) (by omega)
  clear hQ HF hU3 U2 hqs
  obtain ⟨sg, hsg⟩ : ∃ b, b = decide (q.num < 0) := ⟨_, rfl⟩
  obtain ⟨N, hN⟩ : ∃ b, b = q.num.natAbs := ⟨_, rfl⟩
  obtain ⟨D, hD⟩ : ∃ b, b = q.den := ⟨_, rfl⟩
  rw [← hsg, ← hN, ← hD] at HTT ⊢
  rw [← hN] at hnum l1
  rw [← hD] at hden l2
  clear hsg hN hD
  have HN := Lib.hid hnum
  have HD := Lib.hid hden
  clear hnum hden
  go_wp2_with fail
  obtain ⟨w4, hw4⟩ : ∃ w4, w4 = w3.alloc (Obj.cells #[.bool sg, .slice A3 (ln N) c3, .slice A3' (ln D) c3'] 40) := ⟨_, rfl⟩
  have U4 : Up w3 w4 := by rw [hw4]; exact (Below.refl _ _).alloc (Nat.le_refl _) _
  have b4 : Blk w4 w3.heap.size 40 #[.bool sg, .slice A3 (ln N) c3, .slice A3' (ln D) c3'] := by rw [hw4]; exact Blk.new _ _ _
  rw [← hw4]
  clear hw4
  refine (digits_t A3 c3 N w4 (HN.out.up U4) l1 (HT.out.up (U3.trans U4))).mono ?_
  rintro e w5 ⟨R, rfl, hR, hR9, U5⟩
  obtain ⟨g, hg⟩ : ∃ g, g = w3.heap.size := ⟨_, rfl⟩
  rw [← hg] at b4 ⊢
  have b5 := b4.up U5
  have HD5 := Lib.hid ((HD.out.up U4).up U5)
  have HU5 := Lib.hid ((U3.trans U4).trans U5)
  have HR := Lib.hid hR
  obtain ⟨d0, d1, d2⟩ := tri b5
  clear HN HD b4 U3 U4 U5 hg hR
  have l2' : ln D ≤ 17592186044416 := by omega
  cases sg with
  | true =>
    have hd : Hid (T = [45] ++ (Lib.decDigits N ++ (if D = 1 then [] else 47 :: Lib.decDigits D))) := Lib.hid (by rw [HTT.out]; unfold ftext3; rw [if_pos rfl])
    go_wp2_with fail
    refine (isOne_any A3' c3' D w5 HD5.out l2').mono ?_
    rintro e w6 ⟨rfl, rfl⟩
    by_cases h1 : D = 1
    · have hb : (D == 1) = true := beq_iff_eq.2 h1
      have hd1 := hd.out
      rw [if_pos h1] at hd1
      have HD1 := Lib.hid hd1
      rw [hb]
      clear hd1 h1 hb
      go_wp2_with fail
      go_ret
      exact ⟨ret_str (by rw [HD1.out, bytes_app, HR.out]; simp), HU5.out⟩
    · have hb : (D == 1) = false := beq_eq_false_iff_ne.2 h1
      have hd1 := hd.out
      rw [if_neg h1] at hd1
      have HD1 := Lib.hid hd1
      rw [hb]
      clear hd1 h1 hb
      go_wp2_with fail
      refine (digits_t A3' c3' D w5 HD5.out l2 (HT.out.up HU5.out)).mono ?_
      rintro e w6 ⟨R2, rfl, hR2, hR29, U6⟩
      have HR2 := Lib.hid hR2
      have HU6 := Lib.hid (HU5.out.trans U6)
      clear hR2 U6
      go_wp2_with fail
      go_ret
      exact ⟨ret_str (by rw [HD1.out, bytes_app, bytes_app, bytes_app, HR.out, HR2.out]; simp), HU6.out⟩
  | false =>
    have hd : Hid (T = (Lib.decDigits N ++ (if D = 1 then [] else 47 :: Lib.decDigits D))) := Lib.hid (by rw [HTT.out]; unfold ftext3; rw [if_neg Bool.false_ne_true]; rfl)
    go_wp2_with fail
    refine (isOne_any A3' c3' D w5 HD5.out l2').mono ?_
    rintro e w6 ⟨rfl, rfl⟩
    by_cases h1 : D = 1
    · have hb : (D == 1) = true := beq_iff_eq.2 h1
      have hd1 := hd.out
      rw [if_pos h1] at hd1
      have HD1 := Lib.hid hd1
      rw [hb]
      clear hd1 h1 hb
      go_wp2_with fail
      go_ret
      exact ⟨ret_str (by rw [HD1.out, HR.out]; simp), HU5.out⟩
    · have hb : (D == 1) = false := beq_eq_false_iff_ne.2 h1
      have hd1 := hd.out
      rw [if_neg h1] at hd1
      have HD1 := Lib.hid hd1
      rw [hb]
      clear hd1 h1 hb
      go_wp2_with fail
      refine (digits_t A3' c3' D w5 HD5.out l2 (HT.out.up HU5.out)).mono ?_
      rintro e w6 ⟨R2, rfl, hR2, hR29, U6⟩
      have HR2 := Lib.hid hR2
      have HU6 := Lib.hid (HU5.out.trans U6)
      clear hR2 U6
      go_wp2_with fail
      go_ret
      exact ⟨ret_str (by rw [HD1.out, bytes_app, bytes_app, HR.out, HR2.out]; simp), HU6.out⟩
end Go.Proofs.YtefiapjfiojaoaaDoor
