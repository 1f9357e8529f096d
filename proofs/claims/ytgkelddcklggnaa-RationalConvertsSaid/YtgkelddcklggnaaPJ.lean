/-
  PJ: RToInt, RVToInt, FCeilQ.
-/
import Derived.Test.YtgkelddcklggnaaPC
import Derived.Test.YtgkelddcklggnaaPI
/-
  Rational numbers as values: ToInt.
-/
namespace Go.Proofs.Ytgkelddcklggnaa
open Go.RowKit

def toIntV (s : Bool) (n d : Nat) : Int × Bool :=
  if d = 1 then if s = true then (if n ≤ 9223372036854775808 then (-(n : Int), true) else (0, false)) else (if n ≤ 9223372036854775807 then ((n : Int), true) else (0, false)) else (0, false)
/-- What lowest makes of what load gives. -/
def lowNum (xs ys : List Nat) : Nat := ldN (nv xs) (nv ys) / Nat.gcd (ldN (nv xs) (nv ys)) (ldD (nv xs) (nv ys))
def lowDen (xs ys : List Nat) : Nat := ldD (nv xs) (nv ys) / Nat.gcd (ldN (nv xs) (nv ys)) (ldD (nv xs) (nv ys))
def lowSgn (s : Bool) (xs ys : List Nat) : Bool := lwS (ldS s (nv xs) (nv ys)) (ldN (nv xs) (nv ys))
set_option maxHeartbeats 6400000 in
theorem toInt_any (s : Bool) (A : Option Addr) (ca : Nat) (B : Option Addr) (cb : Nat) (xs ys : List Nat) (w : World) (h1 : SI w w.heap.size .u32 A (zs xs)) (h2 : SI w w.heap.size .u32 B (zs ys))
    (h3 : ∀ a ∈ xs, a < 4294967296) (h4 : ∀ a ∈ ys, a < 4294967296) (h5 : xs.length ≤ 8589934592) (h6 : ys.length ≤ 8589934592) (h7 : ln (nv xs) ≤ 17179869183) (h8 : ln (nv ys) ≤ 17179869183) :
    Calls Try.prog 10 #[.agg #[.bool s, .slice A xs.length ca, .slice B ys.length cb]] w fun e w' =>
      e = .returned (.tuple #[.int .i64 (toIntV (lowSgn s xs ys) (lowNum xs ys) (lowDen xs ys)).1, .bool (toIntV (lowSgn s xs ys) (lowNum xs ys) (lowDen xs ys)).2]) ∧ Up w w' := by
  have HL : ∀ wx, Up w wx → Calls Try.prog 45 #[.agg #[.bool s, .slice A xs.length ca, .slice B ys.length cb]] wx (RetF wx (ldS s (nv xs) (nv ys)) (ldN (nv xs) (nv ys)) (ldD (nv xs) (nv ys))) :=
    fun wx hu => load_any s A ca B cb xs ys wx (SI.up h1 hu) (SI.up h2 hu) h3 h4 (by omega) (by omega)
  have H := Lib.hid HL
  have hl1 : ln (ldN (nv xs) (nv ys)) ≤ 17179869183 := Nat.le_trans (ln_mono (ldN_le _ _)) h7
  have hl2 : ln (ldD (nv xs) (nv ys)) ≤ 17179869183 := ln_ldD h8 (by omega)
  have hl3 : ln (lowNum xs ys) ≤ 17179869183 := Nat.le_trans (ln_div _ _) hl1
  have hl4 : ln (lowDen xs ys) ≤ 17179869183 := Nat.le_trans (ln_div _ _) hl2
  have hd0 : ldD (nv xs) (nv ys) ≠ 0 := ldD_ne
  have HLow : ∀ (wx : World) (A2 : Option Addr) (c2 : Nat) (B2 : Option Addr) (d2 : Nat), NS wx A2 (ldN (nv xs) (nv ys)) → NS wx B2 (ldD (nv xs) (nv ys)) → ln (ldN (nv xs) (nv ys)) ≤ c2 → c2 ≤ 9223372036854775807 → ln (ldD (nv xs) (nv ys)) ≤ d2 → d2 ≤ 9223372036854775807 →
      Calls Try.prog 46 #[.agg #[.bool (ldS s (nv xs) (nv ys)), .slice A2 (ln (ldN (nv xs) (nv ys))) c2, .slice B2 (ln (ldD (nv xs) (nv ys))) d2]] wx (RetF wx (lowSgn s xs ys) (lowNum xs ys) (lowDen xs ys)) :=
    fun wx A2 c2 B2 d2 q1 q2 q3 q4 q5 q6 => lowest_any _ A2 c2 B2 d2 _ _ wx q1 q2 q3 q4 q5 q6 hl1 hl2 hd0
  have HW := Lib.hid HLow
  obtain ⟨S, hS⟩ : ∃ S, S = lowSgn s xs ys := ⟨_, rfl⟩
  obtain ⟨N, hN⟩ : ∃ N, N = lowNum xs ys := ⟨_, rfl⟩
  obtain ⟨D, hD⟩ : ∃ D, D = lowDen xs ys := ⟨_, rfl⟩
  rw [← hS, ← hN, ← hD] at HW ⊢
  rw [← hN] at hl3
  rw [← hD] at hl4
  clear HL HLow h1 h2 h3 h4 h7 h8 hS hN hD hd0 hl1 hl2
  go_enter Try.func10, Try.ntmps10
  go_wp2_with fail
  refine (H.out _ ((Below.refl _ _).alloc (Nat.le_refl _) _)).mono ?_
  rintro e w2 ⟨v, rfl, ⟨A2, c2, B2, d2, rfl, q1, q2, q3, q4, q5, q6⟩, hU2⟩
  have U2 : Up w w2 := Up.trans ((Below.refl _ _).alloc (Nat.le_refl _) _) hU2
  go_wp2_with fail
  refine (HW.out w2 A2 c2 B2 d2 q1 q2 q3 q4 q5 q6).mono ?_
  rintro e w3 ⟨v, rfl, ⟨A3, c3, B3, d3, rfl, p1, p2, p3, p4, p5, p6⟩, hU3⟩
  have U3 := U2.trans hU3
  clear q1 q2 q3 q4 q5 q6
  go_wp2_with fail
  have U4 : Up w3 (w3.alloc (Obj.cells #[.bool S, .slice A3 (ln N) c3, .slice B3 (ln D) d3] 46)) := (Below.refl _ _).alloc (Nat.le_refl _) _
  have U5 := U3.trans U4
  have l3 : ln N ≤ 17592186044416 := by omega
  have l4 : ln D ≤ 17592186044416 := by omega
  refine (isOne_any B3 d3 D _ (p2.up U4) l4).mono ?_
  rintro e w5 ⟨rfl, rfl⟩
  by_cases hd1 : D = 1
  · have ht1 : (D == 1) = true := by simp [hd1]
    rw [ht1]
    have HD1 := Lib.hid hd1
    clear hd1 ht1
    go_wp2_with fail
    refine (word_any A3 c3 N _ (p1.up U4) l3).mono ?_
    rintro e w5 ⟨rfl, rfl⟩
    by_cases hbig : N < 18446744073709551616
    · rw [wordV_yes hbig]
      cases S with
      | true =>
        by_cases hN : N ≤ 9223372036854775808
        · have hv : toIntV true N D = (-(N : Int), true) := by rw [toIntV, if_pos HD1.out, if_pos rfl, if_pos hN]
          have HV := Lib.hid hv
          have ht2 : decide (N ≤ 9223372036854775808) = true := by simp [hN]
          have e1 : IntKind.i64.wrap (-(IntKind.i64.wrap (N : Int))) = -(N : Int) := by unfold IntKind.wrap; simp [IntKind.bits, IntKind.signed]; omega
          have e2 : wrap64 (-wrap64 (N : Int)) = -(N : Int) := by first | exact e1 | (unfold wrap64; omega)
          have HE := Lib.hid e2
          clear hv e1 e2
          go_wp2_with fail
          go_ret2
          rw [HV.out]
          exact ⟨congrArg (fun z : Int => Ending.returned (.tuple #[.int .i64 z, .bool true])) HE.out, U5⟩
        · have hv : toIntV true N D = (0, false) := by rw [toIntV, if_pos HD1.out, if_pos rfl, if_neg hN]
          have HV := Lib.hid hv
          have ht2 : decide (N ≤ 9223372036854775808) = false := by simp; omega
          clear hv
          go_wp2_with fail
          go_ret2
          rw [HV.out]
          exact ⟨rfl, U5⟩
      | false =>
        by_cases hN : N ≤ 9223372036854775807
        · have hv : toIntV false N D = ((N : Int), true) := by rw [toIntV, if_pos HD1.out, if_neg (by simp), if_pos hN]
          have HV := Lib.hid hv
          have ht2 : decide (N ≤ 9223372036854775807) = true := by simp [hN]
          clear hv
          go_wp2_with fail
          go_ret2
          rw [HV.out]
          exact ⟨rfl, U5⟩
        · have hv : toIntV false N D = (0, false) := by rw [toIntV, if_pos HD1.out, if_neg (by simp), if_neg hN]
          have HV := Lib.hid hv
          have ht2 : decide (N ≤ 9223372036854775807) = false := by simp; omega
          clear hv
          go_wp2_with fail
          go_ret2
          rw [HV.out]
          exact ⟨rfl, U5⟩
    · rw [wordV_no (by omega)]
      have hv : toIntV S N D = (0, false) := by
        rw [toIntV, if_pos HD1.out]
        split
        · rw [if_neg (by omega)]
        · rw [if_neg (by omega)]
      have HV := Lib.hid hv
      clear hv
      go_wp2_with fail
      go_ret2
      rw [HV.out]
      exact ⟨rfl, U5⟩
  · have ht1 : (D == 1) = false := by simp [hd1]
    have hv : toIntV S N D = (0, false) := by rw [toIntV, if_neg hd1]
    rw [ht1]
    have HV := Lib.hid hv
    clear hd1 ht1 hv
    go_wp2_with fail
    go_ret2
    rw [HV.out]
    exact ⟨rfl, U5⟩
end Go.Proofs.Ytgkelddcklggnaa

/-
  Rational numbers in memory, by their values: ToInt.
-/
namespace Go.Proofs.Ytgkelddcklggnaa
open Go.RowKit
section
variable {v : Value} {q : Rat} {B : Nat} {w : World}
def toIntQ (q : Rat) : Int × Bool := if q.den = 1 ∧ -9223372036854775808 ≤ q.num ∧ q.num ≤ 9223372036854775807 then (q.num, true) else (0, false)
theorem toIntV_q (q : Rat) : toIntV (decide (q.num < 0)) q.num.natAbs q.den = toIntQ q := by
  unfold toIntV toIntQ
  by_cases hd : q.den = 1
  · rw [if_pos hd]
    by_cases hn : q.num < 0
    · rw [if_pos (by simpa using hn)]
      by_cases h : q.num.natAbs ≤ 9223372036854775808
      · rw [if_pos h, if_pos ⟨hd, by omega, by omega⟩]
        congr 1; omega
      · rw [if_neg h, if_neg (by omega)]
    · rw [if_neg (by simpa using hn)]
      by_cases h : q.num.natAbs ≤ 9223372036854775807
      · rw [if_pos h, if_pos ⟨hd, by omega, by omega⟩]
        congr 1; omega
      · rw [if_neg h, if_neg (by omega)]
  · rw [if_neg hd, if_neg (by omega)]
theorem toInt_q (h : IV w v q B) (hB : B ≤ 8589934592) :
    Calls Try.prog 10 #[v] w fun e w' => e = .returned (.tuple #[.int .i64 (toIntQ q).1, .bool (toIntQ q).2]) ∧ Up w w' := by
  obtain ⟨s, xs, ys, ⟨A, ca, A', cb, rfl, h1, h2, h3, h4, _⟩, k1, k2, rfl⟩ := h
  have := toInt_any s A ca A' cb xs ys w h1 h2 h3 h4 (by omega) (by omega) (Nat.le_trans (ln_nv32 h3) (by omega)) (Nat.le_trans (ln_nv32 h4) (by omega))
  rw [← toIntV_q]
  have e : fq s (nv xs) (nv ys) = fq (ldS s (nv xs) (nv ys)) (ldN (nv xs) (nv ys)) (ldD (nv xs) (nv ys)) := by
    unfold ldS ldN ldD
    by_cases hz : nv xs = 0 ∨ nv ys = 0
    · rw [if_pos hz, if_pos hz, if_pos hz, fq_zero]
      rcases hz with e | e
      · rw [e, fq_zero]
      · rw [e, fq_none]
    · rw [if_neg hz, if_neg hz, if_neg hz]
  rw [e, fq_num ldD_ne, fq_den ldD_ne, fq_sign ldD_ne]
  exact this
end
end Go.Proofs.Ytgkelddcklggnaa

/-
  The document's answer, by values: Ceil, ToInt.
-/
namespace Go.Proofs.Ytgkelddcklggnaa
open Go.RowKit

set_option maxRecDepth 100000 in
set_option maxHeartbeats 3200000 in
theorem rCeil_q {v : Value} {q : Rat} {B : Nat} {w : World} (h : IV w v q B) (hB : B ≤ 8589934570) : Calls Try.prog 25 #[v] w (RetQ w (q.ceil : Rat)) := by
  have H1 := Lib.hid (fun wx (u : Up w wx) => rNeg_q (h.up u) (by omega))
  have H2 := Lib.hid (fun wx vx (hq : QV wx vx (-q)) => rFloor_q (hq.iv (B := B + 1) (by rw [qs_neg]; exact h.qs)) (by omega))
  have H3 := Lib.hid (fun wx vx (hq : QV wx vx ((-q).floor : Rat)) => rNeg_q (hq.iv (B := B + 2) (Nat.le_trans (qs_floor _) (by rw [qs_neg]; have := h.qs; omega))) (by omega))
  rw [show -(((-q).floor : Int) : Rat) = (q.ceil : Rat) from by rw [Rat.ceil_eq_neg_floor_neg, Rat.intCast_neg]] at H3
  obtain ⟨s, A, n, c, A', n', c', rfl⟩ := h.shape
  clear h
  go_enter Try.func25, Try.ntmps25
  go_wp2_with fail
  obtain ⟨w1, hw1⟩ : ∃ w1, w1 = (w.alloc (Obj.cells #[.bool s, .slice A n c, .slice A' n' c'] 24)).alloc (Obj.cells #[.bool false, .slice none 0 0, .slice none 0 0] 24) := ⟨_, rfl⟩
  have U1 : Up w w1 := by rw [hw1]; exact ((Below.refl _ _).alloc (Nat.le_refl _) _).alloc (by simp) _
  have r1 : Blk w1 (w.heap.size + 1) 24 #[.bool false, .slice none 0 0, .slice none 0 0] := by rw [hw1]; exact Blk.new' _ _ _ (by simp)
  rw [← hw1]
  clear hw1
  refine (H1.out w1 U1).mono ?_
  rintro e w2 ⟨v2, rfl, hQ2, U2⟩
  obtain ⟨s2, A2, n2, c2, A2', n2', c2', rfl⟩ := hQ2.shape
  have HQ2 := Lib.hid hQ2
  clear hQ2
  go_wp2_with fail
  refine (H2.out _ _ HQ2.out).mono ?_
  rintro e w3 ⟨v3, rfl, hQ3, U3⟩
  obtain ⟨s3, A3, n3, c3, A3', n3', c3', rfl⟩ := hQ3.shape
  have HQ3 := Lib.hid hQ3
  clear hQ3
  go_wp2_with fail
  refine (H3.out _ _ HQ3.out).mono ?_
  rintro e w4 ⟨v4, rfl, hQ4, U4⟩
  obtain ⟨s4, A4, n4, c4, A4', n4', c4', rfl⟩ := hQ4.shape
  have HQ4 := Lib.hid hQ4
  clear hQ4
  have V4 := ((U1.trans U2).trans U3).trans U4
  have r4 := ((r1.up U2).up U3).up U4
  obtain ⟨d0, d1, d2⟩ := tri r4
  have f0 := r4.frozen 0
  have f1 := r4.frozen 1
  have f2 := r4.frozen 2
  clear H1 H2 H3 U1 U2 U3 U4 r1
  go_wp2_with fail
  obtain ⟨c0, c1, c2'⟩ := tri (tri_set r4 (.bool s4) (.slice A4 n4 c4) (.slice A4' n4' c4'))
  refine bodyPost_ret (v := .agg #[.bool s4, .slice A4 n4 c4, .slice A4' n4' c4']) ?_ rfl (ret_q r4 HQ4.out V4 (by omega))
  simp [results, Try.results25, go_sem, c0, c1, c2']

set_option maxRecDepth 100000 in
set_option maxHeartbeats 6400000 in
theorem rToInt_q {v : Value} {q : Rat} {B : Nat} {w : World} (h : IV w v q B) (hB : B ≤ 8589934570) :
    Calls Try.prog 11 #[v] w fun e w' => e = .returned (.tuple #[.int .i64 (toIntQ q).1, .bool (toIntQ q).2]) ∧ Up w w' := by
  obtain ⟨s, A, n, c, A', n', c', rfl⟩ := h.shape
  have H := Lib.hid (fun wx (u : Up w wx) => rCanonical_q (h.up u) (by omega))
  have hqs := h.qs
  clear h
  go_enter Try.func11, Try.ntmps11
  go_wp2_with fail
  obtain ⟨w1, hw1⟩ : ∃ w1, w1 = (w.alloc (Obj.cells #[.bool s, .slice A n c, .slice A' n' c'] 24)) := ⟨_, rfl⟩
  have U1 : Up w w1 := by rw [hw1]; exact (Below.refl _ _).alloc (Nat.le_refl _) _
  have a1 : Blk w1 w.heap.size 24 #[.bool s, .slice A n c, .slice A' n' c'] := by rw [hw1]; exact Blk.new w _ _
  rw [← hw1]
  clear hw1
  refine (H.out w1 U1).mono ?_
  rintro e w3 ⟨v3, rfl, hQ, hU3⟩
  obtain ⟨s3, A3, n3, c3, A3', n3', c3', rfl⟩ := hQ.shape
  have a3 := a1.up hU3
  have U3 := U1.trans hU3
  have hQ4 := QV.kp hQ (Kp.tri (s' := s3) (C := A3) (m := n3) (d := c3) (C' := A3') (m' := n3') (d' := c3') (Kp.refl w3) a3)
  have a4 := tri_set a3 (.bool s3) (.slice A3 n3 c3) (.slice A3' n3' c3')
  have U4 := up_tri (g := w.heap.size) U3 (Nat.le_refl _) (.bool s3) (.slice A3 n3 c3) (.slice A3' n3' c3')
  obtain ⟨d0, d1, d2⟩ := tri a3
  have f0 := a3.frozen 0
  have f1 := a3.frozen 1
  have f2 := a3.frozen 2
  clear hQ H hU3 a1 U1
  obtain ⟨w4, hw4⟩ : ∃ w4, w4 = (((w3.setCell ⟨w.heap.size, 0, none⟩ (.bool s3)).setCell ⟨w.heap.size, 1, none⟩ (.slice A3 n3 c3)).setCell ⟨w.heap.size, 2, none⟩ (.slice A3' n3' c3')) := ⟨_, rfl⟩
  rw [← hw4] at hQ4 a4 U4
  have HI := Lib.hid (fun wx (hu : Up w4 wx) => rIntegral_q ((hQ4.up hu).iv (B := B + 1) hqs) (by omega))
  obtain ⟨x0, x1, x2⟩ := tri a4
  go_wp2_with fail
  rw [← hw4]
  clear hw4 d0 d1 d2 f0 f1 f2 a3 U3
  refine (HI.out w4 (Up.refl _)).mono ?_
  rintro e w5 ⟨rfl, U5⟩
  have a5 := a4.up U5
  have V5 := U4.trans U5
  have hQ5 := hQ4.up U5
  clear x0 x1 x2 hQ4 a4 U4 U5 HI
  obtain ⟨x0, x1, x2⟩ := tri a5
  obtain ⟨rfl, rfl, rfl, q1, q2, q3, q4, q5, q6⟩ := hQ5.opened
  clear hQ5 q2 q5 q6
  by_cases hd : q.den = 1
  case neg =>
    have hb : (q.den == 1) = false := by simpa using hd
    have HT := Lib.hid (show toIntQ q = (0, false) by unfold toIntQ; rw [if_neg (fun h => hd h.1)])
    obtain ⟨b, hbb⟩ : ∃ b, b = (q.den == 1) := ⟨_, rfl⟩
    rw [← hbb] at hb ⊢
    subst hb
    clear hbb hd
    go_wp2_with fail
    go_ret2
    rw [HT.out]
    exact ⟨rfl, V5⟩
  have hb : (q.den == 1) = true := by simpa using hd
  obtain ⟨b, hbb⟩ : ∃ b, b = (q.den == 1) := ⟨_, rfl⟩
  rw [← hbb] at hb ⊢
  subst hb
  clear hbb
  have HD := Lib.hid hd
  clear hd
  by_cases hl : 3 < ln q.num.natAbs
  · have hbig := pow_le_of_ln hl
    have HT := Lib.hid (show toIntQ q = (0, false) by unfold toIntQ; rw [if_neg (fun h => by omega)])
    have hl2 : ln q.num.natAbs ≤ 9223372036854775807 := by omega
    obtain ⟨L, hL⟩ : ∃ L, L = ln q.num.natAbs := ⟨_, rfl⟩
    rw [← hL] at x1 hl hl2 ⊢
    have ht1 : decide ((3 : Int) < (L : Int)) = true := by simp; omega
    have ht2 : decide (3 < L) = true := by simp; omega
    clear hbig hL
    go_wp2_with fail
    go_ret2
    rw [HT.out]
    exact ⟨rfl, V5⟩
  obtain ⟨P, hP⟩ : ∃ P : Nat, P = 9223372036854775808 := ⟨_, rfl⟩
  have HLi : Hid (∀ wx, Calls Try.prog 50 #[.int .u64 9223372036854775808] wx (RetN wx P)) := Lib.hid fun wx => by rw [hP]; exact limbs_any 9223372036854775808 wx (by omega)
  have hlP : ln P ≤ 3 := ln_le.2 (by rw [hP]; decide)
  have HC := Lib.hid (fun (X : Option Addr) (cx : Nat) wx (hu : Up w5 wx) (hn : NS wx X P) => natCmp_any A3 c3 q.num.natAbs X cx P wx (q1.up hu) hn (by omega) (by omega))
  have HTD : Hid (toIntQ q = if -9223372036854775808 ≤ q.num ∧ q.num ≤ 9223372036854775807 then (q.num, true) else (0, false)) := Lib.hid (by
    unfold toIntQ
    rw [HD.out]
    simp)
  obtain ⟨k, hk⟩ : ∃ k, k = cmpN q.num.natAbs P := ⟨_, rfl⟩
  rw [← hk] at HC
  obtain ⟨L, hL⟩ : ∃ L, L = ln q.num.natAbs := ⟨_, rfl⟩
  obtain ⟨M, hM⟩ : ∃ L, L = ln q.den := ⟨_, rfl⟩
  have hL3 : L ≤ 3 := by omega
  rw [← hL] at a5 x1 HC ⊢
  rw [← hM] at a5 x2 ⊢
  have ht1 : decide ((3 : Int) < (L : Int)) = false := by simp; omega
  have ht2 : decide (3 < L) = false := by simp; omega
  have VV : Up w5 w5.drew := (Up.refl w5).drew
  have s5 := tri (Blk.drew a5)
  have HL := Lib.hid hL
  clear hM hl hL
  by_cases hgt : P < q.num.natAbs
  · rw [hk, cmpN_gt hgt] at HC
    have HT := Lib.hid (show toIntQ q = (0, false) by rw [HTD.out, if_neg (by omega)])
    obtain ⟨s, hs⟩ : ∃ s, s = decide (q.num < 0) := ⟨_, rfl⟩
    rw [← hs] at a5 x0 s5 ⊢
    clear hgt hs hP hk
    go_wp2_with fail
    refine wp_region_noPanic ?_
    refine wp_region_sched (S := (fun wx => wx.cell? ⟨w.heap.size, 0, none⟩ = some (.bool s) ∧ wx.cell? ⟨w.heap.size, 1, none⟩ = some (.slice A3 L c3) ∧ wx.cell? ⟨w.heap.size, 2, none⟩ = some (.slice A3' M c3'))) [(0, false), (1, false), (2, true), (3, true), (4, false), (5, false), (6, false), (7, false), (8, false), (9, false), (10, false), (11, false), (12, true), (13, true), (14, false), (15, false), (16, false)] (by kernel_rfl) (by as_aux_lemma => kernel_rfl) (by as_aux_lemma => kernel_rfl) (by as_aux_lemma => kernel_rfl) (fun _ _ _ _ _ h => h) s5 ?_
    intro O1 HO1
    refine wpSched_take (i := 0) (v := ?v1x1) (by as_aux_lemma => rw [HO1.out]; simp only [List.getElem?_toArray, List.getElem?_cons_zero]; rfl) (Or.inl ⟨(by rfl), ?y1x1⟩) ?r1x1
    case y1x1 => as_aux_lemma => intro wx hSx; (try dsimp only at hSx); go_simp; try with_reducible rfl
    try simp only [Act.put, List.setIfInBounds_toArray, List.set_cons_zero, List.set_cons_succ]
    refine wpSched_take (i := 1) (v := ?v1x2) (by as_aux_lemma => rw [HO1.out]; simp only [List.getElem?_toArray, List.getElem?_cons_succ, List.getElem?_cons_zero]; rfl) (Or.inl ⟨(by rfl), ?y1x2⟩) ?r1x2
    case y1x2 => as_aux_lemma => intro wx hSx; (try dsimp only at hSx); go_simp; try with_reducible rfl
    try simp only [Act.put, List.setIfInBounds_toArray, List.set_cons_zero, List.set_cons_succ]
    refine wpSched_call (i := 2) (by as_aux_lemma => rw [HO1.out]; simp only [List.getElem?_toArray, List.getElem?_cons_succ, List.getElem?_cons_zero]; rfl) (by rfl) (fun K' hK => ?_)
    go_simp
    refine (HLi.out _).mono ?_
    rintro e w6 ⟨X, cx, rfl, n1, n2, n3, UL⟩
    replace VV := Up.trans VV UL
    have s5 := tri (a5.up VV)
    go_wp2_with fail
    refine hK.out _ _ s5 (fun _ => ?_)
    clear hK K'
    try simp only [Act.put, List.setIfInBounds_toArray, List.set_cons_zero, List.set_cons_succ]
    refine wpSched_call (i := 3) (by as_aux_lemma => rw [HO1.out]; simp only [List.getElem?_toArray, List.getElem?_cons_succ, List.getElem?_cons_zero]; rfl) (by rfl) (fun K' hK => ?_)
    go_simp
    refine (HC.out _ _ _ VV n3).mono ?_
    rintro e w7 ⟨rfl, UL⟩
    replace VV := Up.trans VV UL
    clear n1 n2 n3
    have s5 := tri (a5.up VV)
    go_wp2_with fail
    refine hK.out _ _ s5 (fun _ => ?_)
    clear hK K'
    try simp only [Act.put, List.setIfInBounds_toArray, List.set_cons_zero, List.set_cons_succ]
    refine wpSched_take (i := 4) (v := ?v1x3) (by as_aux_lemma => rw [HO1.out]; simp only [List.getElem?_toArray, List.getElem?_cons_succ, List.getElem?_cons_zero]; rfl) (Or.inl ⟨(by rfl), ?y1x3⟩) ?r1x3
    case y1x3 => as_aux_lemma => intro wx hSx; (try dsimp only at hSx); go_simp; try with_reducible rfl
    try simp only [Act.put, List.setIfInBounds_toArray, List.set_cons_zero, List.set_cons_succ]
    refine wpSched_take (i := 5) (v := ?v1x4) (by as_aux_lemma => rw [HO1.out]; simp only [List.getElem?_toArray, List.getElem?_cons_succ, List.getElem?_cons_zero]; rfl) (Or.inl ⟨(by rfl), ?y1x4⟩) ?r1x4
    case y1x4 => as_aux_lemma => intro wx hSx; (try dsimp only at hSx); go_simp; try with_reducible rfl
    try simp only [Act.put, List.setIfInBounds_toArray, List.set_cons_zero, List.set_cons_succ]
    refine wpSched_take (i := 6) (v := undef) (by as_aux_lemma => rw [HO1.out]; simp only [List.getElem?_toArray, List.getElem?_cons_succ, List.getElem?_cons_zero]; rfl) (Or.inr ⟨by as_aux_lemma => rw [HO1.out]; rfl, rfl⟩) ?_
    try simp only [Act.put, List.setIfInBounds_toArray, List.set_cons_zero, List.set_cons_succ]
    refine wpSched_take (i := 7) (v := undef) (by as_aux_lemma => rw [HO1.out]; simp only [List.getElem?_toArray, List.getElem?_cons_succ, List.getElem?_cons_zero]; rfl) (Or.inr ⟨by as_aux_lemma => rw [HO1.out]; rfl, rfl⟩) ?_
    try simp only [Act.put, List.setIfInBounds_toArray, List.set_cons_zero, List.set_cons_succ]
    refine wpSched_take (i := 8) (v := undef) (by as_aux_lemma => rw [HO1.out]; simp only [List.getElem?_toArray, List.getElem?_cons_succ, List.getElem?_cons_zero]; rfl) (Or.inr ⟨by as_aux_lemma => rw [HO1.out]; rfl, rfl⟩) ?_
    try simp only [Act.put, List.setIfInBounds_toArray, List.set_cons_zero, List.set_cons_succ]
    refine wpSched_take (i := 9) (v := undef) (by as_aux_lemma => rw [HO1.out]; simp only [List.getElem?_toArray, List.getElem?_cons_succ, List.getElem?_cons_zero]; rfl) (Or.inr ⟨by as_aux_lemma => rw [HO1.out]; rfl, rfl⟩) ?_
    try simp only [Act.put, List.setIfInBounds_toArray, List.set_cons_zero, List.set_cons_succ]
    refine wpSched_take (i := 10) (v := undef) (by as_aux_lemma => rw [HO1.out]; simp only [List.getElem?_toArray, List.getElem?_cons_succ, List.getElem?_cons_zero]; rfl) (Or.inr ⟨by as_aux_lemma => rw [HO1.out]; rfl, rfl⟩) ?_
    try simp only [Act.put, List.setIfInBounds_toArray, List.set_cons_zero, List.set_cons_succ]
    refine wpSched_take (i := 11) (v := undef) (by as_aux_lemma => rw [HO1.out]; simp only [List.getElem?_toArray, List.getElem?_cons_succ, List.getElem?_cons_zero]; rfl) (Or.inr ⟨by as_aux_lemma => rw [HO1.out]; rfl, rfl⟩) ?_
    try simp only [Act.put, List.setIfInBounds_toArray, List.set_cons_zero, List.set_cons_succ]
    refine wpSched_skip (i := 12) (by as_aux_lemma => rw [HO1.out]; simp only [List.getElem?_toArray, List.getElem?_cons_succ, List.getElem?_cons_zero]; rfl) (by as_aux_lemma => rw [HO1.out]; rfl) s5 ?_
    try simp only [Act.put, List.setIfInBounds_toArray, List.set_cons_zero, List.set_cons_succ]
    refine wpSched_skip (i := 13) (by as_aux_lemma => rw [HO1.out]; simp only [List.getElem?_toArray, List.getElem?_cons_succ, List.getElem?_cons_zero]; rfl) (by as_aux_lemma => rw [HO1.out]; rfl) s5 ?_
    try simp only [Act.put, List.setIfInBounds_toArray, List.set_cons_zero, List.set_cons_succ]
    refine wpSched_take (i := 14) (v := undef) (by as_aux_lemma => rw [HO1.out]; simp only [List.getElem?_toArray, List.getElem?_cons_succ, List.getElem?_cons_zero]; rfl) (Or.inr ⟨by as_aux_lemma => rw [HO1.out]; rfl, rfl⟩) ?_
    try simp only [Act.put, List.setIfInBounds_toArray, List.set_cons_zero, List.set_cons_succ]
    refine wpSched_take (i := 15) (v := undef) (by as_aux_lemma => rw [HO1.out]; simp only [List.getElem?_toArray, List.getElem?_cons_succ, List.getElem?_cons_zero]; rfl) (Or.inr ⟨by as_aux_lemma => rw [HO1.out]; rfl, rfl⟩) ?_
    try simp only [Act.put, List.setIfInBounds_toArray, List.set_cons_zero, List.set_cons_succ]
    refine wpSched_take (i := 16) (v := ?v1x5) (by as_aux_lemma => rw [HO1.out]; simp only [List.getElem?_toArray, List.getElem?_cons_succ, List.getElem?_cons_zero]; rfl) (Or.inl ⟨(by rfl), ?y1x5⟩) ?r1x5
    case y1x5 => as_aux_lemma => intro wx hSx; (try dsimp only at hSx); go_simp; try with_reducible rfl
    try simp only [Act.put, List.setIfInBounds_toArray, List.set_cons_zero, List.set_cons_succ]
    refine wpSched_end (NoPanic.normal ?_)
    clear HO1 O1
    go_wp2_with fail
    go_ret2
    rw [HT.out]
    exact ⟨rfl, V5.trans VV⟩
  by_cases hn : q.num < 0
  · rw [decide_eq_true hn] at a5 x0 s5
    rw [decide_eq_true hn]
    have HT := Lib.hid (show toIntQ q = (q.num, true) by rw [HTD.out, if_pos (by omega)])
    have hNz : 1 ≤ q.num.natAbs := by omega
    have hNP : q.num.natAbs ≤ 9223372036854775808 := by omega
    have HN := Lib.hid (show q.num = -(q.num.natAbs : Int) by omega)
    have hnx := nv_digs q.num.natAbs
    have hlnx : (digs q.num.natAbs).length = ln q.num.natAbs := rfl
    rw [← HL.out] at hlnx
    obtain ⟨xa, hxa⟩ : ∃ xa, xa = digs q.num.natAbs := ⟨_, rfl⟩
    rw [← hxa] at hnx hlnx
    have HX := Lib.hid hnx
    have HLX := Lib.hid hlnx
    clear hnx hlnx
    by_cases he : q.num.natAbs = P
    case' pos =>
      rw [hk, cmpN_eq he] at HC
      clear hgt hn hP hk he
      go_wp2_with fail
      refine wp_region_noPanic ?_
      refine wp_region_sched (S := (fun wx => wx.cell? ⟨w.heap.size, 0, none⟩ = some (.bool true) ∧ wx.cell? ⟨w.heap.size, 1, none⟩ = some (.slice A3 L c3) ∧ wx.cell? ⟨w.heap.size, 2, none⟩ = some (.slice A3' M c3'))) [(0, false), (1, false), (2, true), (3, true), (4, false), (5, false), (6, false), (7, false), (8, false), (9, false), (10, false), (11, false), (12, true), (13, true), (14, false), (15, false), (16, false)] (by kernel_rfl) (by as_aux_lemma => kernel_rfl) (by as_aux_lemma => kernel_rfl) (by as_aux_lemma => kernel_rfl) (fun _ _ _ _ _ h => h) s5 ?_
      intro O2 HO2
      refine wpSched_take (i := 0) (v := ?v2x1) (by as_aux_lemma => rw [HO2.out]; simp only [List.getElem?_toArray, List.getElem?_cons_zero]; rfl) (Or.inl ⟨(by rfl), ?y2x1⟩) ?r2x1
      case y2x1 => as_aux_lemma => intro wx hSx; (try dsimp only at hSx); go_simp; try with_reducible rfl
      try simp only [Act.put, List.setIfInBounds_toArray, List.set_cons_zero, List.set_cons_succ]
      refine wpSched_take (i := 1) (v := ?v2x2) (by as_aux_lemma => rw [HO2.out]; simp only [List.getElem?_toArray, List.getElem?_cons_succ, List.getElem?_cons_zero]; rfl) (Or.inl ⟨(by rfl), ?y2x2⟩) ?r2x2
      case y2x2 => as_aux_lemma => intro wx hSx; (try dsimp only at hSx); go_simp; try with_reducible rfl
      try simp only [Act.put, List.setIfInBounds_toArray, List.set_cons_zero, List.set_cons_succ]
      refine wpSched_call (i := 2) (by as_aux_lemma => rw [HO2.out]; simp only [List.getElem?_toArray, List.getElem?_cons_succ, List.getElem?_cons_zero]; rfl) (by rfl) (fun K' hK => ?_)
      go_simp
      refine (HLi.out _).mono ?_
      rintro e w6 ⟨X, cx, rfl, n1, n2, n3, UL⟩
      replace VV := Up.trans VV UL
      have s5 := tri (a5.up VV)
      go_wp2_with fail
      refine hK.out _ _ s5 (fun _ => ?_)
      clear hK K'
      try simp only [Act.put, List.setIfInBounds_toArray, List.set_cons_zero, List.set_cons_succ]
      refine wpSched_call (i := 3) (by as_aux_lemma => rw [HO2.out]; simp only [List.getElem?_toArray, List.getElem?_cons_succ, List.getElem?_cons_zero]; rfl) (by rfl) (fun K' hK => ?_)
      go_simp
      refine (HC.out _ _ _ VV n3).mono ?_
      rintro e w7 ⟨rfl, UL⟩
      replace VV := Up.trans VV UL
      clear n1 n2 n3
      have s5 := tri (a5.up VV)
      go_wp2_with fail
      refine hK.out _ _ s5 (fun _ => ?_)
      clear hK K'
      try simp only [Act.put, List.setIfInBounds_toArray, List.set_cons_zero, List.set_cons_succ]
      refine wpSched_take (i := 4) (v := ?v2x3) (by as_aux_lemma => rw [HO2.out]; simp only [List.getElem?_toArray, List.getElem?_cons_succ, List.getElem?_cons_zero]; rfl) (Or.inl ⟨(by rfl), ?y2x3⟩) ?r2x3
      case y2x3 => as_aux_lemma => intro wx hSx; (try dsimp only at hSx); go_simp; try with_reducible rfl
      try simp only [Act.put, List.setIfInBounds_toArray, List.set_cons_zero, List.set_cons_succ]
      refine wpSched_take (i := 5) (v := ?v2x4) (by as_aux_lemma => rw [HO2.out]; simp only [List.getElem?_toArray, List.getElem?_cons_succ, List.getElem?_cons_zero]; rfl) (Or.inl ⟨(by rfl), ?y2x4⟩) ?r2x4
      case y2x4 => as_aux_lemma => intro wx hSx; (try dsimp only at hSx); go_simp; try with_reducible rfl
      try simp only [Act.put, List.setIfInBounds_toArray, List.set_cons_zero, List.set_cons_succ]
      refine wpSched_take (i := 6) (v := ?v2x5) (by as_aux_lemma => rw [HO2.out]; simp only [List.getElem?_toArray, List.getElem?_cons_succ, List.getElem?_cons_zero]; rfl) (Or.inl ⟨(by as_aux_lemma => rw [HO2.out]; rfl), ?y2x5⟩) ?r2x5
      case y2x5 => as_aux_lemma => intro wx hSx; (try dsimp only at hSx); go_simp; try with_reducible rfl
      try simp only [Act.put, List.setIfInBounds_toArray, List.set_cons_zero, List.set_cons_succ]
      refine wpSched_take (i := 7) (v := ?v2x6) (by as_aux_lemma => rw [HO2.out]; simp only [List.getElem?_toArray, List.getElem?_cons_succ, List.getElem?_cons_zero]; rfl) (Or.inl ⟨(by as_aux_lemma => rw [HO2.out]; rfl), ?y2x6⟩) ?r2x6
      case y2x6 => as_aux_lemma => intro wx hSx; (try dsimp only at hSx); go_simp; try with_reducible rfl
      try simp only [Act.put, List.setIfInBounds_toArray, List.set_cons_zero, List.set_cons_succ]
      refine wpSched_take (i := 8) (v := ?v2x7) (by as_aux_lemma => rw [HO2.out]; simp only [List.getElem?_toArray, List.getElem?_cons_succ, List.getElem?_cons_zero]; rfl) (Or.inl ⟨(by as_aux_lemma => rw [HO2.out]; rfl), ?y2x7⟩) ?r2x7
      case y2x7 => as_aux_lemma => intro wx hSx; (try dsimp only at hSx); go_simp; try with_reducible rfl
      try simp only [Act.put, List.setIfInBounds_toArray, List.set_cons_zero, List.set_cons_succ]
      refine wpSched_take (i := 9) (v := ?v2x8) (by as_aux_lemma => rw [HO2.out]; simp only [List.getElem?_toArray, List.getElem?_cons_succ, List.getElem?_cons_zero]; rfl) (Or.inl ⟨(by as_aux_lemma => rw [HO2.out]; rfl), ?y2x8⟩) ?r2x8
      case y2x8 => as_aux_lemma => intro wx hSx; (try dsimp only at hSx); go_simp; try with_reducible rfl
      try simp only [Act.put, List.setIfInBounds_toArray, List.set_cons_zero, List.set_cons_succ]
      refine wpSched_take (i := 10) (v := undef) (by as_aux_lemma => rw [HO2.out]; simp only [List.getElem?_toArray, List.getElem?_cons_succ, List.getElem?_cons_zero]; rfl) (Or.inr ⟨by as_aux_lemma => rw [HO2.out]; rfl, rfl⟩) ?_
      try simp only [Act.put, List.setIfInBounds_toArray, List.set_cons_zero, List.set_cons_succ]
      refine wpSched_take (i := 11) (v := undef) (by as_aux_lemma => rw [HO2.out]; simp only [List.getElem?_toArray, List.getElem?_cons_succ, List.getElem?_cons_zero]; rfl) (Or.inr ⟨by as_aux_lemma => rw [HO2.out]; rfl, rfl⟩) ?_
      try simp only [Act.put, List.setIfInBounds_toArray, List.set_cons_zero, List.set_cons_succ]
      refine wpSched_skip (i := 12) (by as_aux_lemma => rw [HO2.out]; simp only [List.getElem?_toArray, List.getElem?_cons_succ, List.getElem?_cons_zero]; rfl) (by as_aux_lemma => rw [HO2.out]; rfl) s5 ?_
      try simp only [Act.put, List.setIfInBounds_toArray, List.set_cons_zero, List.set_cons_succ]
      refine wpSched_skip (i := 13) (by as_aux_lemma => rw [HO2.out]; simp only [List.getElem?_toArray, List.getElem?_cons_succ, List.getElem?_cons_zero]; rfl) (by as_aux_lemma => rw [HO2.out]; rfl) s5 ?_
      try simp only [Act.put, List.setIfInBounds_toArray, List.set_cons_zero, List.set_cons_succ]
      refine wpSched_take (i := 14) (v := undef) (by as_aux_lemma => rw [HO2.out]; simp only [List.getElem?_toArray, List.getElem?_cons_succ, List.getElem?_cons_zero]; rfl) (Or.inr ⟨by as_aux_lemma => rw [HO2.out]; rfl, rfl⟩) ?_
      try simp only [Act.put, List.setIfInBounds_toArray, List.set_cons_zero, List.set_cons_succ]
      refine wpSched_take (i := 15) (v := ?v2x9) (by as_aux_lemma => rw [HO2.out]; simp only [List.getElem?_toArray, List.getElem?_cons_succ, List.getElem?_cons_zero]; rfl) (Or.inl ⟨(by as_aux_lemma => rw [HO2.out]; rfl), ?y2x9⟩) ?r2x9
      case y2x9 => as_aux_lemma => intro wx hSx; (try dsimp only at hSx); go_simp; try with_reducible rfl
      try simp only [Act.put, List.setIfInBounds_toArray, List.set_cons_zero, List.set_cons_succ]
      refine wpSched_take (i := 16) (v := ?v2x10) (by as_aux_lemma => rw [HO2.out]; simp only [List.getElem?_toArray, List.getElem?_cons_succ, List.getElem?_cons_zero]; rfl) (Or.inl ⟨(by rfl), ?y2x10⟩) ?r2x10
      case y2x10 => as_aux_lemma => intro wx hSx; (try dsimp only at hSx); go_simp; try with_reducible rfl
      try simp only [Act.put, List.setIfInBounds_toArray, List.set_cons_zero, List.set_cons_succ]
      refine wpSched_end (NoPanic.normal ?_)
      clear HO2 O2
    case' neg =>
      rw [hk, cmpN_lt (by omega)] at HC
      clear hgt hn hP hk he
      go_wp2_with fail
      refine wp_region_noPanic ?_
      refine wp_region_sched (S := (fun wx => wx.cell? ⟨w.heap.size, 0, none⟩ = some (.bool true) ∧ wx.cell? ⟨w.heap.size, 1, none⟩ = some (.slice A3 L c3) ∧ wx.cell? ⟨w.heap.size, 2, none⟩ = some (.slice A3' M c3'))) [(0, false), (1, false), (2, true), (3, true), (4, false), (5, false), (6, false), (7, false), (8, false), (9, false), (10, false), (11, false), (12, true), (13, true), (14, false), (15, false), (16, false)] (by kernel_rfl) (by as_aux_lemma => kernel_rfl) (by as_aux_lemma => kernel_rfl) (by as_aux_lemma => kernel_rfl) (fun _ _ _ _ _ h => h) s5 ?_
      intro O3 HO3
      refine wpSched_take (i := 0) (v := ?v3x1) (by as_aux_lemma => rw [HO3.out]; simp only [List.getElem?_toArray, List.getElem?_cons_zero]; rfl) (Or.inl ⟨(by rfl), ?y3x1⟩) ?r3x1
      case y3x1 => as_aux_lemma => intro wx hSx; (try dsimp only at hSx); go_simp; try with_reducible rfl
      try simp only [Act.put, List.setIfInBounds_toArray, List.set_cons_zero, List.set_cons_succ]
      refine wpSched_take (i := 1) (v := ?v3x2) (by as_aux_lemma => rw [HO3.out]; simp only [List.getElem?_toArray, List.getElem?_cons_succ, List.getElem?_cons_zero]; rfl) (Or.inl ⟨(by rfl), ?y3x2⟩) ?r3x2
      case y3x2 => as_aux_lemma => intro wx hSx; (try dsimp only at hSx); go_simp; try with_reducible rfl
      try simp only [Act.put, List.setIfInBounds_toArray, List.set_cons_zero, List.set_cons_succ]
      refine wpSched_call (i := 2) (by as_aux_lemma => rw [HO3.out]; simp only [List.getElem?_toArray, List.getElem?_cons_succ, List.getElem?_cons_zero]; rfl) (by rfl) (fun K' hK => ?_)
      go_simp
      refine (HLi.out _).mono ?_
      rintro e w6 ⟨X, cx, rfl, n1, n2, n3, UL⟩
      replace VV := Up.trans VV UL
      have s5 := tri (a5.up VV)
      go_wp2_with fail
      refine hK.out _ _ s5 (fun _ => ?_)
      clear hK K'
      try simp only [Act.put, List.setIfInBounds_toArray, List.set_cons_zero, List.set_cons_succ]
      refine wpSched_call (i := 3) (by as_aux_lemma => rw [HO3.out]; simp only [List.getElem?_toArray, List.getElem?_cons_succ, List.getElem?_cons_zero]; rfl) (by rfl) (fun K' hK => ?_)
      go_simp
      refine (HC.out _ _ _ VV n3).mono ?_
      rintro e w7 ⟨rfl, UL⟩
      replace VV := Up.trans VV UL
      clear n1 n2 n3
      have s5 := tri (a5.up VV)
      go_wp2_with fail
      refine hK.out _ _ s5 (fun _ => ?_)
      clear hK K'
      try simp only [Act.put, List.setIfInBounds_toArray, List.set_cons_zero, List.set_cons_succ]
      refine wpSched_take (i := 4) (v := ?v3x3) (by as_aux_lemma => rw [HO3.out]; simp only [List.getElem?_toArray, List.getElem?_cons_succ, List.getElem?_cons_zero]; rfl) (Or.inl ⟨(by rfl), ?y3x3⟩) ?r3x3
      case y3x3 => as_aux_lemma => intro wx hSx; (try dsimp only at hSx); go_simp; try with_reducible rfl
      try simp only [Act.put, List.setIfInBounds_toArray, List.set_cons_zero, List.set_cons_succ]
      refine wpSched_take (i := 5) (v := ?v3x4) (by as_aux_lemma => rw [HO3.out]; simp only [List.getElem?_toArray, List.getElem?_cons_succ, List.getElem?_cons_zero]; rfl) (Or.inl ⟨(by rfl), ?y3x4⟩) ?r3x4
      case y3x4 => as_aux_lemma => intro wx hSx; (try dsimp only at hSx); go_simp; try with_reducible rfl
      try simp only [Act.put, List.setIfInBounds_toArray, List.set_cons_zero, List.set_cons_succ]
      refine wpSched_take (i := 6) (v := ?v3x5) (by as_aux_lemma => rw [HO3.out]; simp only [List.getElem?_toArray, List.getElem?_cons_succ, List.getElem?_cons_zero]; rfl) (Or.inl ⟨(by as_aux_lemma => rw [HO3.out]; rfl), ?y3x5⟩) ?r3x5
      case y3x5 => as_aux_lemma => intro wx hSx; (try dsimp only at hSx); go_simp; try with_reducible rfl
      try simp only [Act.put, List.setIfInBounds_toArray, List.set_cons_zero, List.set_cons_succ]
      refine wpSched_take (i := 7) (v := ?v3x6) (by as_aux_lemma => rw [HO3.out]; simp only [List.getElem?_toArray, List.getElem?_cons_succ, List.getElem?_cons_zero]; rfl) (Or.inl ⟨(by as_aux_lemma => rw [HO3.out]; rfl), ?y3x6⟩) ?r3x6
      case y3x6 => as_aux_lemma => intro wx hSx; (try dsimp only at hSx); go_simp; try with_reducible rfl
      try simp only [Act.put, List.setIfInBounds_toArray, List.set_cons_zero, List.set_cons_succ]
      refine wpSched_take (i := 8) (v := ?v3x7) (by as_aux_lemma => rw [HO3.out]; simp only [List.getElem?_toArray, List.getElem?_cons_succ, List.getElem?_cons_zero]; rfl) (Or.inl ⟨(by as_aux_lemma => rw [HO3.out]; rfl), ?y3x7⟩) ?r3x7
      case y3x7 => as_aux_lemma => intro wx hSx; (try dsimp only at hSx); go_simp; try with_reducible rfl
      try simp only [Act.put, List.setIfInBounds_toArray, List.set_cons_zero, List.set_cons_succ]
      refine wpSched_take (i := 9) (v := ?v3x8) (by as_aux_lemma => rw [HO3.out]; simp only [List.getElem?_toArray, List.getElem?_cons_succ, List.getElem?_cons_zero]; rfl) (Or.inl ⟨(by as_aux_lemma => rw [HO3.out]; rfl), ?y3x8⟩) ?r3x8
      case y3x8 => as_aux_lemma => intro wx hSx; (try dsimp only at hSx); go_simp; try with_reducible rfl
      try simp only [Act.put, List.setIfInBounds_toArray, List.set_cons_zero, List.set_cons_succ]
      refine wpSched_take (i := 10) (v := undef) (by as_aux_lemma => rw [HO3.out]; simp only [List.getElem?_toArray, List.getElem?_cons_succ, List.getElem?_cons_zero]; rfl) (Or.inr ⟨by as_aux_lemma => rw [HO3.out]; rfl, rfl⟩) ?_
      try simp only [Act.put, List.setIfInBounds_toArray, List.set_cons_zero, List.set_cons_succ]
      refine wpSched_take (i := 11) (v := undef) (by as_aux_lemma => rw [HO3.out]; simp only [List.getElem?_toArray, List.getElem?_cons_succ, List.getElem?_cons_zero]; rfl) (Or.inr ⟨by as_aux_lemma => rw [HO3.out]; rfl, rfl⟩) ?_
      try simp only [Act.put, List.setIfInBounds_toArray, List.set_cons_zero, List.set_cons_succ]
      refine wpSched_skip (i := 12) (by as_aux_lemma => rw [HO3.out]; simp only [List.getElem?_toArray, List.getElem?_cons_succ, List.getElem?_cons_zero]; rfl) (by as_aux_lemma => rw [HO3.out]; rfl) s5 ?_
      try simp only [Act.put, List.setIfInBounds_toArray, List.set_cons_zero, List.set_cons_succ]
      refine wpSched_skip (i := 13) (by as_aux_lemma => rw [HO3.out]; simp only [List.getElem?_toArray, List.getElem?_cons_succ, List.getElem?_cons_zero]; rfl) (by as_aux_lemma => rw [HO3.out]; rfl) s5 ?_
      try simp only [Act.put, List.setIfInBounds_toArray, List.set_cons_zero, List.set_cons_succ]
      refine wpSched_take (i := 14) (v := undef) (by as_aux_lemma => rw [HO3.out]; simp only [List.getElem?_toArray, List.getElem?_cons_succ, List.getElem?_cons_zero]; rfl) (Or.inr ⟨by as_aux_lemma => rw [HO3.out]; rfl, rfl⟩) ?_
      try simp only [Act.put, List.setIfInBounds_toArray, List.set_cons_zero, List.set_cons_succ]
      refine wpSched_take (i := 15) (v := ?v3x9) (by as_aux_lemma => rw [HO3.out]; simp only [List.getElem?_toArray, List.getElem?_cons_succ, List.getElem?_cons_zero]; rfl) (Or.inl ⟨(by as_aux_lemma => rw [HO3.out]; rfl), ?y3x9⟩) ?r3x9
      case y3x9 => as_aux_lemma => intro wx hSx; (try dsimp only at hSx); go_simp; try with_reducible rfl
      try simp only [Act.put, List.setIfInBounds_toArray, List.set_cons_zero, List.set_cons_succ]
      refine wpSched_take (i := 16) (v := ?v3x10) (by as_aux_lemma => rw [HO3.out]; simp only [List.getElem?_toArray, List.getElem?_cons_succ, List.getElem?_cons_zero]; rfl) (Or.inl ⟨(by rfl), ?y3x10⟩) ?r3x10
      case y3x10 => as_aux_lemma => intro wx hSx; (try dsimp only at hSx); go_simp; try with_reducible rfl
      try simp only [Act.put, List.setIfInBounds_toArray, List.set_cons_zero, List.set_cons_succ]
      refine wpSched_end (NoPanic.normal ?_)
      clear HO3 O3
    all_goals
      have HV5 := Lib.hid (V5.trans VV)
      have a7 := a5.up VV
      have q7 := q1.up VV
      clear VV UL s5
      obtain ⟨y0, y1, y2⟩ := tri a7
      unfold NS at q7
      rw [← hxa] at q7
      go_wp2_with fail
      go_loop [4, 5] (fun vv i => ∃ k : Nat, k ≤ xa.length ∧ i = .int .i64 ((k : Int) - 1) ∧ vv = .int .u64 (nv (xa.drop k))) (fun _ i => (intOf i + 1).toNat)
      case atStart => exact ⟨xa.length, Nat.le_refl _, by first | rfl | (rw [HLX.out]), by simp [nv]⟩
      case round =>
        obtain ⟨k, hk, rfl, rfl⟩ := hrel
        by_cases hk0 : k = 0
        · subst hk0
          rw [List.drop_zero, HX.out]
          clear hk
          have e9 : ((q.num.natAbs : Nat) : Int) - 1 ≤ 9223372036854775807 := by omega
          go_wp2_with fail
          go_ret2
          rw [HT.out, HN.out]
          exact ⟨by simp <;> omega, HV5.out⟩
        · obtain ⟨j, rfl⟩ : ∃ j, k = j + 1 := ⟨k - 1, by omega⟩
          have hja : j < xa.length := by omega
          obtain ⟨ad, hAd, had, hcell⟩ := q7.nat hja
          subst hAd
          have hdr := nv_drop xa j hja
          have hle := nv_drop_le xa j (by omega)
          rw [HX.out] at hle
          obtain ⟨z, hz⟩ : ∃ z, z = xa[j] := ⟨_, rfl⟩
          rw [← hz] at hcell hdr
          obtain ⟨T, hT⟩ : ∃ T, T = nv (xa.drop (j + 1)) := ⟨_, rfl⟩
          rw [← hT] at hdr ⊢
          have HDR := Lib.hid hdr
          have kk : ((j + 1 : Nat) : Int) - 1 = (j : Int) := by omega
          have ki1 : (0 : Int) ≤ j := by omega
          have ki2 : (j : Int) < L := by rw [← HLX.out]; omega
          have ht9 : T * 1000000000 + z ≤ 9223372036854775808 := by omega
          rw [kk]
          clear hz hT hdr hle hk hk0 kk
          go_wp2_with fail
          go_round
          case rel => exact ⟨j, by omega, by go_num, by rw [HDR.out]; go_num⟩
          case measure => simp [intOf] <;> omega
  · rw [decide_eq_false hn] at a5 x0 s5
    rw [decide_eq_false hn]
    by_cases he : q.num.natAbs = P
    · rw [hk, cmpN_eq he] at HC
      have HT := Lib.hid (show toIntQ q = (0, false) by rw [HTD.out, if_neg (by omega)])
      clear he hgt hn hP hk
      go_wp2_with fail
      refine wp_region_noPanic ?_
      refine wp_region_sched (S := (fun wx => wx.cell? ⟨w.heap.size, 0, none⟩ = some (.bool false) ∧ wx.cell? ⟨w.heap.size, 1, none⟩ = some (.slice A3 L c3) ∧ wx.cell? ⟨w.heap.size, 2, none⟩ = some (.slice A3' M c3'))) [(0, false), (1, false), (2, true), (3, true), (4, false), (5, false), (6, false), (7, false), (8, false), (9, false), (10, false), (11, false), (12, true), (13, true), (14, false), (15, false), (16, false)] (by kernel_rfl) (by as_aux_lemma => kernel_rfl) (by as_aux_lemma => kernel_rfl) (by as_aux_lemma => kernel_rfl) (fun _ _ _ _ _ h => h) s5 ?_
      intro O4 HO4
      refine wpSched_take (i := 0) (v := ?v4x1) (by as_aux_lemma => rw [HO4.out]; simp only [List.getElem?_toArray, List.getElem?_cons_zero]; rfl) (Or.inl ⟨(by rfl), ?y4x1⟩) ?r4x1
      case y4x1 => as_aux_lemma => intro wx hSx; (try dsimp only at hSx); go_simp; try with_reducible rfl
      try simp only [Act.put, List.setIfInBounds_toArray, List.set_cons_zero, List.set_cons_succ]
      refine wpSched_take (i := 1) (v := ?v4x2) (by as_aux_lemma => rw [HO4.out]; simp only [List.getElem?_toArray, List.getElem?_cons_succ, List.getElem?_cons_zero]; rfl) (Or.inl ⟨(by rfl), ?y4x2⟩) ?r4x2
      case y4x2 => as_aux_lemma => intro wx hSx; (try dsimp only at hSx); go_simp; try with_reducible rfl
      try simp only [Act.put, List.setIfInBounds_toArray, List.set_cons_zero, List.set_cons_succ]
      refine wpSched_call (i := 2) (by as_aux_lemma => rw [HO4.out]; simp only [List.getElem?_toArray, List.getElem?_cons_succ, List.getElem?_cons_zero]; rfl) (by rfl) (fun K' hK => ?_)
      go_simp
      refine (HLi.out _).mono ?_
      rintro e w6 ⟨X, cx, rfl, n1, n2, n3, UL⟩
      replace VV := Up.trans VV UL
      have s5 := tri (a5.up VV)
      go_wp2_with fail
      refine hK.out _ _ s5 (fun _ => ?_)
      clear hK K'
      try simp only [Act.put, List.setIfInBounds_toArray, List.set_cons_zero, List.set_cons_succ]
      refine wpSched_call (i := 3) (by as_aux_lemma => rw [HO4.out]; simp only [List.getElem?_toArray, List.getElem?_cons_succ, List.getElem?_cons_zero]; rfl) (by rfl) (fun K' hK => ?_)
      go_simp
      refine (HC.out _ _ _ VV n3).mono ?_
      rintro e w7 ⟨rfl, UL⟩
      replace VV := Up.trans VV UL
      clear n1 n2 n3
      have s5 := tri (a5.up VV)
      go_wp2_with fail
      refine hK.out _ _ s5 (fun _ => ?_)
      clear hK K'
      try simp only [Act.put, List.setIfInBounds_toArray, List.set_cons_zero, List.set_cons_succ]
      refine wpSched_take (i := 4) (v := ?v4x3) (by as_aux_lemma => rw [HO4.out]; simp only [List.getElem?_toArray, List.getElem?_cons_succ, List.getElem?_cons_zero]; rfl) (Or.inl ⟨(by rfl), ?y4x3⟩) ?r4x3
      case y4x3 => as_aux_lemma => intro wx hSx; (try dsimp only at hSx); go_simp; try with_reducible rfl
      try simp only [Act.put, List.setIfInBounds_toArray, List.set_cons_zero, List.set_cons_succ]
      refine wpSched_take (i := 5) (v := ?v4x4) (by as_aux_lemma => rw [HO4.out]; simp only [List.getElem?_toArray, List.getElem?_cons_succ, List.getElem?_cons_zero]; rfl) (Or.inl ⟨(by rfl), ?y4x4⟩) ?r4x4
      case y4x4 => as_aux_lemma => intro wx hSx; (try dsimp only at hSx); go_simp; try with_reducible rfl
      try simp only [Act.put, List.setIfInBounds_toArray, List.set_cons_zero, List.set_cons_succ]
      refine wpSched_take (i := 6) (v := ?v4x5) (by as_aux_lemma => rw [HO4.out]; simp only [List.getElem?_toArray, List.getElem?_cons_succ, List.getElem?_cons_zero]; rfl) (Or.inl ⟨(by as_aux_lemma => rw [HO4.out]; rfl), ?y4x5⟩) ?r4x5
      case y4x5 => as_aux_lemma => intro wx hSx; (try dsimp only at hSx); go_simp; try with_reducible rfl
      try simp only [Act.put, List.setIfInBounds_toArray, List.set_cons_zero, List.set_cons_succ]
      refine wpSched_take (i := 7) (v := ?v4x6) (by as_aux_lemma => rw [HO4.out]; simp only [List.getElem?_toArray, List.getElem?_cons_succ, List.getElem?_cons_zero]; rfl) (Or.inl ⟨(by as_aux_lemma => rw [HO4.out]; rfl), ?y4x6⟩) ?r4x6
      case y4x6 => as_aux_lemma => intro wx hSx; (try dsimp only at hSx); go_simp; try with_reducible rfl
      try simp only [Act.put, List.setIfInBounds_toArray, List.set_cons_zero, List.set_cons_succ]
      refine wpSched_take (i := 8) (v := ?v4x7) (by as_aux_lemma => rw [HO4.out]; simp only [List.getElem?_toArray, List.getElem?_cons_succ, List.getElem?_cons_zero]; rfl) (Or.inl ⟨(by as_aux_lemma => rw [HO4.out]; rfl), ?y4x7⟩) ?r4x7
      case y4x7 => as_aux_lemma => intro wx hSx; (try dsimp only at hSx); go_simp; try with_reducible rfl
      try simp only [Act.put, List.setIfInBounds_toArray, List.set_cons_zero, List.set_cons_succ]
      refine wpSched_take (i := 9) (v := ?v4x8) (by as_aux_lemma => rw [HO4.out]; simp only [List.getElem?_toArray, List.getElem?_cons_succ, List.getElem?_cons_zero]; rfl) (Or.inl ⟨(by as_aux_lemma => rw [HO4.out]; rfl), ?y4x8⟩) ?r4x8
      case y4x8 => as_aux_lemma => intro wx hSx; (try dsimp only at hSx); go_simp; try with_reducible rfl
      try simp only [Act.put, List.setIfInBounds_toArray, List.set_cons_zero, List.set_cons_succ]
      refine wpSched_take (i := 10) (v := ?v4x9) (by as_aux_lemma => rw [HO4.out]; simp only [List.getElem?_toArray, List.getElem?_cons_succ, List.getElem?_cons_zero]; rfl) (Or.inl ⟨(by as_aux_lemma => rw [HO4.out]; rfl), ?y4x9⟩) ?r4x9
      case y4x9 => as_aux_lemma => intro wx hSx; (try dsimp only at hSx); go_simp; try with_reducible rfl
      try simp only [Act.put, List.setIfInBounds_toArray, List.set_cons_zero, List.set_cons_succ]
      refine wpSched_take (i := 11) (v := ?v4x10) (by as_aux_lemma => rw [HO4.out]; simp only [List.getElem?_toArray, List.getElem?_cons_succ, List.getElem?_cons_zero]; rfl) (Or.inl ⟨(by as_aux_lemma => rw [HO4.out]; rfl), ?y4x10⟩) ?r4x10
      case y4x10 => as_aux_lemma => intro wx hSx; (try dsimp only at hSx); go_simp; try with_reducible rfl
      try simp only [Act.put, List.setIfInBounds_toArray, List.set_cons_zero, List.set_cons_succ]
      refine wpSched_call (i := 12) (by as_aux_lemma => rw [HO4.out]; simp only [List.getElem?_toArray, List.getElem?_cons_succ, List.getElem?_cons_zero]; rfl) (by as_aux_lemma => rw [HO4.out]; rfl) (fun K' hK => ?_)
      go_simp
      refine (HLi.out _).mono ?_
      rintro e w6 ⟨X, cx, rfl, n1, n2, n3, UL⟩
      replace VV := Up.trans VV UL
      have s5 := tri (a5.up VV)
      go_wp2_with fail
      refine hK.out _ _ s5 (fun _ => ?_)
      clear hK K'
      try simp only [Act.put, List.setIfInBounds_toArray, List.set_cons_zero, List.set_cons_succ]
      refine wpSched_call (i := 13) (by as_aux_lemma => rw [HO4.out]; simp only [List.getElem?_toArray, List.getElem?_cons_succ, List.getElem?_cons_zero]; rfl) (by as_aux_lemma => rw [HO4.out]; rfl) (fun K' hK => ?_)
      go_simp
      refine (HC.out _ _ _ VV n3).mono ?_
      rintro e w7 ⟨rfl, UL⟩
      replace VV := Up.trans VV UL
      clear n1 n2 n3
      have s5 := tri (a5.up VV)
      go_wp2_with fail
      refine hK.out _ _ s5 (fun _ => ?_)
      clear hK K'
      try simp only [Act.put, List.setIfInBounds_toArray, List.set_cons_zero, List.set_cons_succ]
      refine wpSched_take (i := 14) (v := ?v4x11) (by as_aux_lemma => rw [HO4.out]; simp only [List.getElem?_toArray, List.getElem?_cons_succ, List.getElem?_cons_zero]; rfl) (Or.inl ⟨(by as_aux_lemma => rw [HO4.out]; rfl), ?y4x11⟩) ?r4x11
      case y4x11 => as_aux_lemma => intro wx hSx; (try dsimp only at hSx); go_simp; try with_reducible rfl
      try simp only [Act.put, List.setIfInBounds_toArray, List.set_cons_zero, List.set_cons_succ]
      refine wpSched_take (i := 15) (v := ?v4x12) (by as_aux_lemma => rw [HO4.out]; simp only [List.getElem?_toArray, List.getElem?_cons_succ, List.getElem?_cons_zero]; rfl) (Or.inl ⟨(by as_aux_lemma => rw [HO4.out]; rfl), ?y4x12⟩) ?r4x12
      case y4x12 => as_aux_lemma => intro wx hSx; (try dsimp only at hSx); go_simp; try with_reducible rfl
      try simp only [Act.put, List.setIfInBounds_toArray, List.set_cons_zero, List.set_cons_succ]
      refine wpSched_take (i := 16) (v := ?v4x13) (by as_aux_lemma => rw [HO4.out]; simp only [List.getElem?_toArray, List.getElem?_cons_succ, List.getElem?_cons_zero]; rfl) (Or.inl ⟨(by rfl), ?y4x13⟩) ?r4x13
      case y4x13 => as_aux_lemma => intro wx hSx; (try dsimp only at hSx); go_simp; try with_reducible rfl
      try simp only [Act.put, List.setIfInBounds_toArray, List.set_cons_zero, List.set_cons_succ]
      refine wpSched_end (NoPanic.normal ?_)
      clear HO4 O4
      go_wp2_with fail
      go_ret2
      rw [HT.out]
      exact ⟨rfl, V5.trans VV⟩
    · rw [hk, cmpN_lt (by omega)] at HC
      have HT := Lib.hid (show toIntQ q = (q.num, true) by rw [HTD.out, if_pos (by omega)])
      have hNP : q.num.natAbs ≤ 9223372036854775807 := by omega
      have HN := Lib.hid (show q.num = (q.num.natAbs : Int) by omega)
      have hnx := nv_digs q.num.natAbs
      have hlnx : (digs q.num.natAbs).length = ln q.num.natAbs := rfl
      rw [← HL.out] at hlnx
      obtain ⟨xa, hxa⟩ : ∃ xa, xa = digs q.num.natAbs := ⟨_, rfl⟩
      rw [← hxa] at hnx hlnx
      have HX := Lib.hid hnx
      have HLX := Lib.hid hlnx
      clear hnx hlnx
      clear he hgt hn hP hk
      go_wp2_with fail
      refine wp_region_noPanic ?_
      refine wp_region_sched (S := (fun wx => wx.cell? ⟨w.heap.size, 0, none⟩ = some (.bool false) ∧ wx.cell? ⟨w.heap.size, 1, none⟩ = some (.slice A3 L c3) ∧ wx.cell? ⟨w.heap.size, 2, none⟩ = some (.slice A3' M c3'))) [(0, false), (1, false), (2, true), (3, true), (4, false), (5, false), (6, false), (7, false), (8, false), (9, false), (10, false), (11, false), (12, true), (13, true), (14, false), (15, false), (16, false)] (by kernel_rfl) (by as_aux_lemma => kernel_rfl) (by as_aux_lemma => kernel_rfl) (by as_aux_lemma => kernel_rfl) (fun _ _ _ _ _ h => h) s5 ?_
      intro O5 HO5
      refine wpSched_take (i := 0) (v := ?v5x1) (by as_aux_lemma => rw [HO5.out]; simp only [List.getElem?_toArray, List.getElem?_cons_zero]; rfl) (Or.inl ⟨(by rfl), ?y5x1⟩) ?r5x1
      case y5x1 => as_aux_lemma => intro wx hSx; (try dsimp only at hSx); go_simp; try with_reducible rfl
      try simp only [Act.put, List.setIfInBounds_toArray, List.set_cons_zero, List.set_cons_succ]
      refine wpSched_take (i := 1) (v := ?v5x2) (by as_aux_lemma => rw [HO5.out]; simp only [List.getElem?_toArray, List.getElem?_cons_succ, List.getElem?_cons_zero]; rfl) (Or.inl ⟨(by rfl), ?y5x2⟩) ?r5x2
      case y5x2 => as_aux_lemma => intro wx hSx; (try dsimp only at hSx); go_simp; try with_reducible rfl
      try simp only [Act.put, List.setIfInBounds_toArray, List.set_cons_zero, List.set_cons_succ]
      refine wpSched_call (i := 2) (by as_aux_lemma => rw [HO5.out]; simp only [List.getElem?_toArray, List.getElem?_cons_succ, List.getElem?_cons_zero]; rfl) (by rfl) (fun K' hK => ?_)
      go_simp
      refine (HLi.out _).mono ?_
      rintro e w6 ⟨X, cx, rfl, n1, n2, n3, UL⟩
      replace VV := Up.trans VV UL
      have s5 := tri (a5.up VV)
      go_wp2_with fail
      refine hK.out _ _ s5 (fun _ => ?_)
      clear hK K'
      try simp only [Act.put, List.setIfInBounds_toArray, List.set_cons_zero, List.set_cons_succ]
      refine wpSched_call (i := 3) (by as_aux_lemma => rw [HO5.out]; simp only [List.getElem?_toArray, List.getElem?_cons_succ, List.getElem?_cons_zero]; rfl) (by rfl) (fun K' hK => ?_)
      go_simp
      refine (HC.out _ _ _ VV n3).mono ?_
      rintro e w7 ⟨rfl, UL⟩
      replace VV := Up.trans VV UL
      clear n1 n2 n3
      have s5 := tri (a5.up VV)
      go_wp2_with fail
      refine hK.out _ _ s5 (fun _ => ?_)
      clear hK K'
      try simp only [Act.put, List.setIfInBounds_toArray, List.set_cons_zero, List.set_cons_succ]
      refine wpSched_take (i := 4) (v := ?v5x3) (by as_aux_lemma => rw [HO5.out]; simp only [List.getElem?_toArray, List.getElem?_cons_succ, List.getElem?_cons_zero]; rfl) (Or.inl ⟨(by rfl), ?y5x3⟩) ?r5x3
      case y5x3 => as_aux_lemma => intro wx hSx; (try dsimp only at hSx); go_simp; try with_reducible rfl
      try simp only [Act.put, List.setIfInBounds_toArray, List.set_cons_zero, List.set_cons_succ]
      refine wpSched_take (i := 5) (v := ?v5x4) (by as_aux_lemma => rw [HO5.out]; simp only [List.getElem?_toArray, List.getElem?_cons_succ, List.getElem?_cons_zero]; rfl) (Or.inl ⟨(by rfl), ?y5x4⟩) ?r5x4
      case y5x4 => as_aux_lemma => intro wx hSx; (try dsimp only at hSx); go_simp; try with_reducible rfl
      try simp only [Act.put, List.setIfInBounds_toArray, List.set_cons_zero, List.set_cons_succ]
      refine wpSched_take (i := 6) (v := ?v5x5) (by as_aux_lemma => rw [HO5.out]; simp only [List.getElem?_toArray, List.getElem?_cons_succ, List.getElem?_cons_zero]; rfl) (Or.inl ⟨(by as_aux_lemma => rw [HO5.out]; rfl), ?y5x5⟩) ?r5x5
      case y5x5 => as_aux_lemma => intro wx hSx; (try dsimp only at hSx); go_simp; try with_reducible rfl
      try simp only [Act.put, List.setIfInBounds_toArray, List.set_cons_zero, List.set_cons_succ]
      refine wpSched_take (i := 7) (v := ?v5x6) (by as_aux_lemma => rw [HO5.out]; simp only [List.getElem?_toArray, List.getElem?_cons_succ, List.getElem?_cons_zero]; rfl) (Or.inl ⟨(by as_aux_lemma => rw [HO5.out]; rfl), ?y5x6⟩) ?r5x6
      case y5x6 => as_aux_lemma => intro wx hSx; (try dsimp only at hSx); go_simp; try with_reducible rfl
      try simp only [Act.put, List.setIfInBounds_toArray, List.set_cons_zero, List.set_cons_succ]
      refine wpSched_take (i := 8) (v := ?v5x7) (by as_aux_lemma => rw [HO5.out]; simp only [List.getElem?_toArray, List.getElem?_cons_succ, List.getElem?_cons_zero]; rfl) (Or.inl ⟨(by as_aux_lemma => rw [HO5.out]; rfl), ?y5x7⟩) ?r5x7
      case y5x7 => as_aux_lemma => intro wx hSx; (try dsimp only at hSx); go_simp; try with_reducible rfl
      try simp only [Act.put, List.setIfInBounds_toArray, List.set_cons_zero, List.set_cons_succ]
      refine wpSched_take (i := 9) (v := ?v5x8) (by as_aux_lemma => rw [HO5.out]; simp only [List.getElem?_toArray, List.getElem?_cons_succ, List.getElem?_cons_zero]; rfl) (Or.inl ⟨(by as_aux_lemma => rw [HO5.out]; rfl), ?y5x8⟩) ?r5x8
      case y5x8 => as_aux_lemma => intro wx hSx; (try dsimp only at hSx); go_simp; try with_reducible rfl
      try simp only [Act.put, List.setIfInBounds_toArray, List.set_cons_zero, List.set_cons_succ]
      refine wpSched_take (i := 10) (v := ?v5x9) (by as_aux_lemma => rw [HO5.out]; simp only [List.getElem?_toArray, List.getElem?_cons_succ, List.getElem?_cons_zero]; rfl) (Or.inl ⟨(by as_aux_lemma => rw [HO5.out]; rfl), ?y5x9⟩) ?r5x9
      case y5x9 => as_aux_lemma => intro wx hSx; (try dsimp only at hSx); go_simp; try with_reducible rfl
      try simp only [Act.put, List.setIfInBounds_toArray, List.set_cons_zero, List.set_cons_succ]
      refine wpSched_take (i := 11) (v := ?v5x10) (by as_aux_lemma => rw [HO5.out]; simp only [List.getElem?_toArray, List.getElem?_cons_succ, List.getElem?_cons_zero]; rfl) (Or.inl ⟨(by as_aux_lemma => rw [HO5.out]; rfl), ?y5x10⟩) ?r5x10
      case y5x10 => as_aux_lemma => intro wx hSx; (try dsimp only at hSx); go_simp; try with_reducible rfl
      try simp only [Act.put, List.setIfInBounds_toArray, List.set_cons_zero, List.set_cons_succ]
      refine wpSched_call (i := 12) (by as_aux_lemma => rw [HO5.out]; simp only [List.getElem?_toArray, List.getElem?_cons_succ, List.getElem?_cons_zero]; rfl) (by as_aux_lemma => rw [HO5.out]; rfl) (fun K' hK => ?_)
      go_simp
      refine (HLi.out _).mono ?_
      rintro e w6 ⟨X, cx, rfl, n1, n2, n3, UL⟩
      replace VV := Up.trans VV UL
      have s5 := tri (a5.up VV)
      go_wp2_with fail
      refine hK.out _ _ s5 (fun _ => ?_)
      clear hK K'
      try simp only [Act.put, List.setIfInBounds_toArray, List.set_cons_zero, List.set_cons_succ]
      refine wpSched_call (i := 13) (by as_aux_lemma => rw [HO5.out]; simp only [List.getElem?_toArray, List.getElem?_cons_succ, List.getElem?_cons_zero]; rfl) (by as_aux_lemma => rw [HO5.out]; rfl) (fun K' hK => ?_)
      go_simp
      refine (HC.out _ _ _ VV n3).mono ?_
      rintro e w7 ⟨rfl, UL⟩
      replace VV := Up.trans VV UL
      clear n1 n2 n3
      have s5 := tri (a5.up VV)
      go_wp2_with fail
      refine hK.out _ _ s5 (fun _ => ?_)
      clear hK K'
      try simp only [Act.put, List.setIfInBounds_toArray, List.set_cons_zero, List.set_cons_succ]
      refine wpSched_take (i := 14) (v := ?v5x11) (by as_aux_lemma => rw [HO5.out]; simp only [List.getElem?_toArray, List.getElem?_cons_succ, List.getElem?_cons_zero]; rfl) (Or.inl ⟨(by as_aux_lemma => rw [HO5.out]; rfl), ?y5x11⟩) ?r5x11
      case y5x11 => as_aux_lemma => intro wx hSx; (try dsimp only at hSx); go_simp; try with_reducible rfl
      try simp only [Act.put, List.setIfInBounds_toArray, List.set_cons_zero, List.set_cons_succ]
      refine wpSched_take (i := 15) (v := ?v5x12) (by as_aux_lemma => rw [HO5.out]; simp only [List.getElem?_toArray, List.getElem?_cons_succ, List.getElem?_cons_zero]; rfl) (Or.inl ⟨(by as_aux_lemma => rw [HO5.out]; rfl), ?y5x12⟩) ?r5x12
      case y5x12 => as_aux_lemma => intro wx hSx; (try dsimp only at hSx); go_simp; try with_reducible rfl
      try simp only [Act.put, List.setIfInBounds_toArray, List.set_cons_zero, List.set_cons_succ]
      refine wpSched_take (i := 16) (v := ?v5x13) (by as_aux_lemma => rw [HO5.out]; simp only [List.getElem?_toArray, List.getElem?_cons_succ, List.getElem?_cons_zero]; rfl) (Or.inl ⟨(by rfl), ?y5x13⟩) ?r5x13
      case y5x13 => as_aux_lemma => intro wx hSx; (try dsimp only at hSx); go_simp; try with_reducible rfl
      try simp only [Act.put, List.setIfInBounds_toArray, List.set_cons_zero, List.set_cons_succ]
      refine wpSched_end (NoPanic.normal ?_)
      clear HO5 O5
      have HV5 := Lib.hid (V5.trans VV)
      have a7 := a5.up VV
      have q7 := q1.up VV
      clear VV UL s5
      obtain ⟨y0, y1, y2⟩ := tri a7
      unfold NS at q7
      rw [← hxa] at q7
      go_wp2_with fail
      go_loop [4, 5] (fun vv i => ∃ k : Nat, k ≤ xa.length ∧ i = .int .i64 ((k : Int) - 1) ∧ vv = .int .u64 (nv (xa.drop k))) (fun _ i => (intOf i + 1).toNat)
      case atStart => exact ⟨xa.length, Nat.le_refl _, by first | rfl | (rw [HLX.out]), by simp [nv]⟩
      case round =>
        obtain ⟨k, hk, rfl, rfl⟩ := hrel
        by_cases hk0 : k = 0
        · subst hk0
          rw [List.drop_zero, HX.out]
          clear hk
          go_wp2_with fail
          go_ret2
          rw [HT.out, HN.out]
          exact ⟨by simp <;> omega, HV5.out⟩
        · obtain ⟨j, rfl⟩ : ∃ j, k = j + 1 := ⟨k - 1, by omega⟩
          have hja : j < xa.length := by omega
          obtain ⟨ad, hAd, had, hcell⟩ := q7.nat hja
          subst hAd
          have hdr := nv_drop xa j hja
          have hle := nv_drop_le xa j (by omega)
          rw [HX.out] at hle
          obtain ⟨z, hz⟩ : ∃ z, z = xa[j] := ⟨_, rfl⟩
          rw [← hz] at hcell hdr
          obtain ⟨T, hT⟩ : ∃ T, T = nv (xa.drop (j + 1)) := ⟨_, rfl⟩
          rw [← hT] at hdr ⊢
          have HDR := Lib.hid hdr
          have kk : ((j + 1 : Nat) : Int) - 1 = (j : Int) := by omega
          have ki1 : (0 : Int) ≤ j := by omega
          have ki2 : (j : Int) < L := by rw [← HLX.out]; omega
          have ht9 : T * 1000000000 + z ≤ 9223372036854775808 := by omega
          rw [kk]
          clear hz hT hdr hle hk hk0 kk
          go_wp2_with fail
          go_round
          case rel => exact ⟨j, by omega, by go_num, by rw [HDR.out]; go_num⟩
          case measure => simp [intOf] <;> omega
end Go.Proofs.Ytgkelddcklggnaa
