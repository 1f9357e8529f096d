/-
  Choose, Over and the document's Choose; the sanity check of the statements.
-/
import Derived.Test.YtiiebgfjdkkdeaaBRatio
namespace Go.Proofs.Ytiiebgfjdkkdeaa
open Go.RowKit

def chooseV (n k : Int) : Rat := if 0 ≤ k ∧ k ≤ 64 then bc ((max 0 n : Int) : Rat) k.toNat else 0
def chooseB (k : Int) : Bool := decide (0 ≤ k ∧ k ≤ 64)
theorem chooseV_no {n k : Int} (h : ¬ (0 ≤ k ∧ k ≤ 64)) : chooseV n k = ((0 : Int) : Rat) ∧ chooseB k = false := by
  unfold chooseV chooseB
  rw [if_neg h]
  exact ⟨rfl, by simpa using h⟩
theorem chooseV_yes {n k : Int} (h1 : 0 ≤ k) (h2 : k ≤ 64) : chooseV n k = bc ((max 0 n : Int) : Rat) k.toNat ∧ chooseB k = true := by
  unfold chooseV chooseB
  rw [if_pos ⟨h1, h2⟩]
  exact ⟨rfl, by simp [h1, h2]⟩

set_option maxRecDepth 100000 in
set_option maxHeartbeats 3200000 in
theorem choose_q (n k : Int) (hn1 : -9223372036854775808 ≤ n) (hn2 : n ≤ 9223372036854775807) {w : World} :
    Calls Try.prog 10 #[.int .i64 n, .int .i64 k] w (RetQB w (chooseV n k) (chooseB k)) := by
  by_cases hk : 0 ≤ k ∧ k ≤ 64
  · obtain ⟨hk1, hk2⟩ := hk
    obtain ⟨j, rfl⟩ : ∃ j : Nat, k = (j : Int) := ⟨k.toNat, by omega⟩
    have HV := Lib.hid (chooseV_yes (n := n) hk1 hk2)
    rw [Int.toNat_natCast] at HV
    have t1 : decide ((j : Int) < 0) = false := by simp
    have t2 : decide ((64 : Int) < (j : Int)) = false := by simp; omega
    have t3 : decide (64 < j) = false := by simp; omega
    have HF := Lib.hid (fun (wx : World) => falling_q (w := wx) (max 0 n) j (by omega) (by omega) (by omega))
    clear hk1
    by_cases hn : n ≤ 0
    case' pos =>
      have hm : max 0 n = 0 := by omega
      have hc : decide (0 < n) = false := by simpa using hn
      have hc2 : decide (n < 0) = decide (n < 0) := rfl
      rw [hm] at HF HV
      go_enter Try.func10, Try.ntmps10
      go_wp2_with fail
    case' neg =>
      have hm : max 0 n = n := by omega
      have hc : decide (0 < n) = true := by simpa using hn
      rw [hm] at HF HV
      go_enter Try.func10, Try.ntmps10
      go_wp2_with fail
    all_goals
      obtain ⟨w1, hw1⟩ : ∃ w1, w1 = w.alloc (Obj.cells #[.bool false, .slice none 0 0, .slice none 0 0] 24) := ⟨_, rfl⟩
      have U1 : Up w w1 := by rw [hw1]; exact (Below.refl _ _).alloc (Nat.le_refl _) _
      have r1 : Blk w1 w.heap.size 24 #[.bool false, .slice none 0 0, .slice none 0 0] := by rw [hw1]; exact Blk.new' _ _ _ rfl
      rw [← hw1]
      clear hw1
      refine (HF.out w1).mono ?_
      rintro e w2 ⟨v2, rfl, hQ2, U2⟩
      obtain ⟨s2, A2, n2, c2, B2, m2, d2, rfl⟩ := hQ2.shape
      rw [← HV.out.1] at hQ2
      have HQ2 := Lib.hid hQ2
      have r2 := r1.up U2
      clear hQ2
      obtain ⟨x0, x1, x2⟩ := tri r2
      have f0 := r2.frozen 0
      have f1 := r2.frozen 1
      have f2 := r2.frozen 2
      go_wp2_with fail
      obtain ⟨k0, k1, k2⟩ := tri (tri_set r2 (.bool s2) (.slice A2 n2 c2) (.slice B2 m2 d2))
      refine bodyPost_ret (v := .tuple #[.agg #[.bool s2, .slice A2 n2 c2, .slice B2 m2 d2], .bool true]) ?_ rfl (by rw [HV.out.2]; exact ret_qb r2 HQ2.out (U1.trans U2) (Nat.le_refl _))
      simp [results, Try.results10, go_sem, k0, k1, k2]
  · have HV := Lib.hid (chooseV_no (n := n) hk)
    rcases (show k < 0 ∨ (¬ k < 0 ∧ 64 < k) by omega) with h | ⟨h, h2⟩
    case' inl =>
      have t1 : decide (k < 0) = true := by simpa using h
      clear h hk
      go_enter Try.func10, Try.ntmps10
      go_wp2_with fail
    case' inr =>
      have t1 : decide (k < 0) = false := by simpa using h
      have t2 : decide (64 < k) = true := by simpa using h2
      clear h h2 hk
      go_enter Try.func10, Try.ntmps10
      go_wp2_with fail
    all_goals
      obtain ⟨w1, hw1⟩ : ∃ w1, w1 = w.alloc (Obj.cells #[.bool false, .slice none 0 0, .slice none 0 0] 24) := ⟨_, rfl⟩
      have U1 : Up w w1 := by rw [hw1]; exact (Below.refl _ _).alloc (Nat.le_refl _) _
      have r1 : Blk w1 w.heap.size 24 #[.bool false, .slice none 0 0, .slice none 0 0] := by rw [hw1]; exact Blk.new' _ _ _ rfl
      rw [← hw1]
      clear hw1
      refine (fromInt_q 0 (by omega) (by omega)).mono ?_
      rintro e w2 ⟨v2, rfl, hQ2, U2⟩
      obtain ⟨s2, A2, n2, c2, B2, m2, d2, rfl⟩ := hQ2.shape
      rw [← HV.out.1] at hQ2
      have HQ2 := Lib.hid hQ2
      have r2 := r1.up U2
      clear hQ2
      obtain ⟨x0, x1, x2⟩ := tri r2
      have f0 := r2.frozen 0
      have f1 := r2.frozen 1
      have f2 := r2.frozen 2
      go_wp2_with fail
      obtain ⟨k0, k1, k2⟩ := tri (tri_set r2 (.bool s2) (.slice A2 n2 c2) (.slice B2 m2 d2))
      refine bodyPost_ret (v := .tuple #[.agg #[.bool s2, .slice A2 n2 c2, .slice B2 m2 d2], .bool false]) ?_ rfl (by rw [HV.out.2]; exact ret_qb r2 HQ2.out (U1.trans U2) (Nat.le_refl _))
      simp [results, Try.results10, go_sem, k0, k1, k2]
def ov (q : Rat) : Rat := if q < 0 then 0 else q
theorem ov_int (n : Int) : ov (n : Rat) = ((max 0 n : Int) : Rat) := by
  unfold ov
  by_cases h : n < 0
  · rw [if_pos (by rw [show (0 : Rat) = ((0 : Int) : Rat) from rfl]; exact Rat.intCast_lt_intCast.2 h), show max 0 n = 0 by omega]; rfl
  · rw [if_neg (fun h2 => h (by rw [show (0 : Rat) = ((0 : Int) : Rat) from rfl] at h2; exact Rat.intCast_lt_intCast.1 h2)), show max 0 n = n by omega]
theorem sgn_lt0 {q : Rat} : decide (sgn q < 0) = decide (q < 0) := by
  rcases sgn_cases q with ⟨h, e⟩ | ⟨h, e⟩ | ⟨h, e⟩ <;> rw [e]
  · simp [h]
  · simp [h]
  · rw [decide_eq_false (show ¬ q < 0 by grind)]; rfl

set_option maxRecDepth 100000 in
set_option maxHeartbeats 3200000 in
theorem over_q {v : Value} {q : Rat} {B : Nat} (k : Nat) (hk : k ≤ 64) {w : World} (hv : IV w v q B) (hB : B ≤ 100000) :
    Calls Try.prog 30 #[v, .int .i64 (k : Int)] w (RetQ w (bc (ov q) k)) := by
  have HS := Lib.hid (fun wx (u : Up w wx) => rSign_q (hv.up u) (by omega))
  obtain ⟨sa, Aa, na, ca, Ba, ma, da, rfl⟩ := hv.shape
  have HV := Lib.hid hv
  have hsd := sgn_lt0 (q := q)
  obtain ⟨σ, hσ⟩ : ∃ σ, σ = sgn q := ⟨_, rfl⟩
  rw [← hσ] at HS hsd
  clear hv hσ
  go_enter Try.func30, Try.ntmps30
  go_wp2_with fail
  obtain ⟨w1, hw1⟩ : ∃ w1, w1 = (w.alloc (Obj.cells #[.bool sa, .slice Aa na ca, .slice Ba ma da] 24)).alloc (Obj.cells #[.bool false, .slice none 0 0, .slice none 0 0] 24) := ⟨_, rfl⟩
  have U1 : Up w w1 := by rw [hw1]; exact ((Below.refl _ _).alloc (Nat.le_refl _) _).alloc (by simp) _
  have a1 : Blk w1 w.heap.size 24 #[.bool sa, .slice Aa na ca, .slice Ba ma da] := by rw [hw1]; exact (Blk.new w _ _).alloc _
  have r1 : Blk w1 (w.heap.size + 1) 24 #[.bool false, .slice none 0 0, .slice none 0 0] := by rw [hw1]; exact Blk.new' _ _ _ (by simp)
  rw [← hw1]
  clear hw1
  refine (HS.out w1 U1).mono ?_
  rintro e w2 ⟨rfl, U2⟩
  have a2 := a1.up U2
  have r2 := r1.up U2
  have V2 := U1.trans U2
  clear a1 r1 U1 U2 HS
  obtain ⟨x0, x1, x2⟩ := tri a2
  have e0 := a2.frozen 0
  have e1 := a2.frozen 1
  have e2 := a2.frozen 2
  by_cases hq : q < 0
  · rw [decide_eq_true hq] at hsd
    have HO := Lib.hid (show ov q = ((0 : Int) : Rat) by rw [ov, if_pos hq]; rfl)
    clear hq
    go_wp2_with fail
    refine (rFromInt_q 0 (by omega) (by omega)).mono ?_
    rintro e w3 ⟨v3, rfl, hQ3, U3⟩
    obtain ⟨s3, A3, n3, c3, B3, m3, d3, rfl⟩ := hQ3.shape
    have a3 := a2.up U3
    have r3 := r2.up U3
    clear x0 x1 x2 e0 e1 e2
    obtain ⟨x0, x1, x2⟩ := tri a3
    have e0 := a3.frozen 0
    have e1 := a3.frozen 1
    have e2 := a3.frozen 2
    have hQ4 := QV.kp hQ3 (Kp.tri (s' := s3) (C := A3) (m := n3) (d := c3) (C' := B3) (m' := m3) (d' := d3) (Kp.refl w3) a3)
    have r4 := ((r3.far (p := ⟨w.heap.size, 0, none⟩) (by simp) (.bool s3)).far (p := ⟨w.heap.size, 1, none⟩) (by simp) (.slice A3 n3 c3)).far (p := ⟨w.heap.size, 2, none⟩) (by simp) (.slice B3 m3 d3)
    have V4 := up_tri (g := w.heap.size) (V2.trans U3) (Nat.le_refl _) (.bool s3) (.slice A3 n3 c3) (.slice B3 m3 d3)
    obtain ⟨w4, hw4⟩ : ∃ w4, w4 = (((w3.setCell ⟨w.heap.size, 0, none⟩ (.bool s3)).setCell ⟨w.heap.size, 1, none⟩ (.slice A3 n3 c3)).setCell ⟨w.heap.size, 2, none⟩ (.slice B3 m3 d3)) := ⟨_, rfl⟩
    rw [← hw4] at hQ4 r4 V4
    have HR := Lib.hid (ratio_q k hk (hQ4.iv (B := 3) (qs_int 0 (by omega) (by omega))) (by omega))
    rw [← HO.out] at HR
    clear hQ3 hQ4
    go_wp2_with fail
    rw [← hw4]
    clear hw4
    refine HR.out.mono ?_
    rintro e w5 ⟨v5, rfl, hQ5, U5⟩
    obtain ⟨s5, A5, n5, c5, B5, m5, d5, rfl⟩ := hQ5.shape
    have HQ5 := Lib.hid hQ5
    have r5 := r4.up U5
    obtain ⟨k0, k1, k2⟩ := tri r5
    have f0 := r5.frozen 0
    have f1 := r5.frozen 1
    have f2 := r5.frozen 2
    clear hQ5
    go_wp2_with fail
    obtain ⟨k0, k1, k2⟩ := tri (tri_set r5 (.bool s5) (.slice A5 n5 c5) (.slice B5 m5 d5))
    refine bodyPost_ret (v := .agg #[.bool s5, .slice A5 n5 c5, .slice B5 m5 d5]) ?_ rfl (ret_q r5 HQ5.out (V4.trans U5) (by omega))
    simp [results, Try.results30, go_sem, k0, k1, k2]
  · rw [decide_eq_false hq] at hsd
    have HO := Lib.hid (show ov q = q by rw [ov, if_neg hq])
    have HR := Lib.hid (ratio_q k hk (HV.out.up V2) (by omega))
    rw [← HO.out] at HR
    clear hq
    go_wp2_with fail
    have HR2 := HR.out
    rw [HO.out] at HR2
    refine HR2.mono ?_
    rintro e w5 ⟨v5, rfl, hQ5, U5⟩
    obtain ⟨s5, A5, n5, c5, B5, m5, d5, rfl⟩ := hQ5.shape
    have HQ5 := Lib.hid hQ5
    have r5 := r2.up U5
    obtain ⟨k0, k1, k2⟩ := tri r5
    have f0 := r5.frozen 0
    have f1 := r5.frozen 1
    have f2 := r5.frozen 2
    clear hQ5 HR2
    go_wp2_with fail
    obtain ⟨k0, k1, k2⟩ := tri (tri_set r5 (.bool s5) (.slice A5 n5 c5) (.slice B5 m5 d5))
    refine bodyPost_ret (v := .agg #[.bool s5, .slice A5 n5 c5, .slice B5 m5 d5]) ?_ rfl (by rw [HO.out]; exact ret_q r5 HQ5.out (V2.trans U5) (by omega))
    simp [results, Try.results30, go_sem, k0, k1, k2]

set_option maxRecDepth 100000 in
set_option maxHeartbeats 3200000 in
theorem rChoose_q (n k : Int) (hn1 : -9223372036854775808 ≤ n) (hn2 : n ≤ 9223372036854775807) {w : World} :
    Calls Try.prog 11 #[.int .i64 n, .int .i64 k] w (RetQB w (chooseV n k) (chooseB k)) := by
  by_cases hk : 0 ≤ k ∧ k ≤ 64
  · obtain ⟨hk1, hk2⟩ := hk
    obtain ⟨j, rfl⟩ : ∃ j : Nat, k = (j : Int) := ⟨k.toNat, by omega⟩
    have HV := Lib.hid (chooseV_yes (n := n) hk1 hk2)
    rw [Int.toNat_natCast, ← ov_int] at HV
    have t1 : decide ((j : Int) < 0) = false := by simp
    have t2 : decide ((64 : Int) < (j : Int)) = false := by simp; omega
    have t3 : decide (64 < j) = false := by simp; omega
    have HF := Lib.hid (fun (wx : World) vx (h : QV wx vx (n : Rat)) => over_q j (by omega) (h.iv (B := 3) (qs_int n hn1 hn2)) (by omega))
    clear hk1
    go_enter Try.func11, Try.ntmps11
    go_wp2_with fail
    obtain ⟨w1, hw1⟩ : ∃ w1, w1 = w.alloc (Obj.cells #[.bool false, .slice none 0 0, .slice none 0 0] 24) := ⟨_, rfl⟩
    have U1 : Up w w1 := by rw [hw1]; exact (Below.refl _ _).alloc (Nat.le_refl _) _
    have r1 : Blk w1 w.heap.size 24 #[.bool false, .slice none 0 0, .slice none 0 0] := by rw [hw1]; exact Blk.new' _ _ _ rfl
    rw [← hw1]
    clear hw1
    refine (rFromInt_q n hn1 hn2).mono ?_
    rintro e w3 ⟨v3, rfl, hQ3, U3⟩
    obtain ⟨s3, A3, n3, c3, B3, m3, d3, rfl⟩ := hQ3.shape
    have HQ3 := Lib.hid hQ3
    clear hQ3
    go_wp2_with fail
    refine (HF.out _ _ HQ3.out).mono ?_
    rintro e w2 ⟨v2, rfl, hQ2, U2⟩
    obtain ⟨s2, A2, n2, c2, B2, m2, d2, rfl⟩ := hQ2.shape
    rw [← HV.out.1] at hQ2
    have HQ2 := Lib.hid hQ2
    have r2 := (r1.up U3).up U2
    clear hQ2
    obtain ⟨x0, x1, x2⟩ := tri r2
    have f0 := r2.frozen 0
    have f1 := r2.frozen 1
    have f2 := r2.frozen 2
    go_wp2_with fail
    obtain ⟨k0, k1, k2⟩ := tri (tri_set r2 (.bool s2) (.slice A2 n2 c2) (.slice B2 m2 d2))
    refine bodyPost_ret (v := .tuple #[.agg #[.bool s2, .slice A2 n2 c2, .slice B2 m2 d2], .bool true]) ?_ rfl (by rw [HV.out.2]; exact ret_qb r2 HQ2.out ((U1.trans U3).trans U2) (Nat.le_refl _))
    simp [results, Try.results11, go_sem, k0, k1, k2]
  · have HV := Lib.hid (chooseV_no (n := n) hk)
    rcases (show k < 0 ∨ (¬ k < 0 ∧ 64 < k) by omega) with h | ⟨h, h2⟩
    case' inl =>
      have t1 : decide (k < 0) = true := by simpa using h
      clear h hk
      go_enter Try.func11, Try.ntmps11
      go_wp2_with fail
    case' inr =>
      have t1 : decide (k < 0) = false := by simpa using h
      have t2 : decide (64 < k) = true := by simpa using h2
      clear h h2 hk
      go_enter Try.func11, Try.ntmps11
      go_wp2_with fail
    all_goals
      obtain ⟨w1, hw1⟩ : ∃ w1, w1 = w.alloc (Obj.cells #[.bool false, .slice none 0 0, .slice none 0 0] 24) := ⟨_, rfl⟩
      have U1 : Up w w1 := by rw [hw1]; exact (Below.refl _ _).alloc (Nat.le_refl _) _
      have r1 : Blk w1 w.heap.size 24 #[.bool false, .slice none 0 0, .slice none 0 0] := by rw [hw1]; exact Blk.new' _ _ _ rfl
      rw [← hw1]
      clear hw1
      refine (rFromInt_q 0 (by omega) (by omega)).mono ?_
      rintro e w2 ⟨v2, rfl, hQ2, U2⟩
      obtain ⟨s2, A2, n2, c2, B2, m2, d2, rfl⟩ := hQ2.shape
      rw [← HV.out.1] at hQ2
      have HQ2 := Lib.hid hQ2
      have r2 := r1.up U2
      clear hQ2
      obtain ⟨x0, x1, x2⟩ := tri r2
      have f0 := r2.frozen 0
      have f1 := r2.frozen 1
      have f2 := r2.frozen 2
      go_wp2_with fail
      obtain ⟨k0, k1, k2⟩ := tri (tri_set r2 (.bool s2) (.slice A2 n2 c2) (.slice B2 m2 d2))
      refine bodyPost_ret (v := .tuple #[.agg #[.bool s2, .slice A2 n2 c2, .slice B2 m2 d2], .bool false]) ?_ rfl (by rw [HV.out.2]; exact ret_qb r2 HQ2.out (U1.trans U2) (Nat.le_refl _))
      simp [results, Try.results11, go_sem, k0, k1, k2]
end Go.Proofs.Ytiiebgfjdkkdeaa
