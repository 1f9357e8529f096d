/-
  Choose, Over and the document's Choose; the sanity check of the statements.
-/
import Derived.Test.YtkngegcfdabpoaaBRatio
namespace Go.Proofs.Ytkngegcfdabpoaa
open Go.RowKit

def chooseV (n k : Int) : Rat := if 0 ≤ k ∧ k ≤ 64 then bc ((max 0 n : Int) : Rat) k.toNat else 0
def chooseB (k : Int) : Bool := decide (0 ≤ k ∧ k ≤ 64)
theorem chooseV_no {n k : Int} (h : ¬ (0 ≤ k ∧ k ≤ 64)) : chooseV n k = ((0 : Int) : Rat) ∧ chooseB k = false := by
  unfold chooseV chooseB
  rw [if_neg h]
  exact ⟨rfl, by simpa using h⟩
theorem chooseV_yes {n k : Int} (h1 : 0 ≤ k) (h2 : k ≤ 64) : chooseV n k = bc ((max 0 n : Int) : Rat) k.toNat ∧ chooseB k = true := by
  unfold chooseV chooseB
  rw [if_pos ⟨h1, h2⟩]
  exact ⟨rfl, by simp [h1, h2]⟩

set_option maxRecDepth 100000 in
set_option maxHeartbeats 3200000 in
theorem choose_q (n k : Int) (hn1 : -9223372036854775808 ≤ n) (hn2 : n ≤ 9223372036854775807) {w : World} :
    Calls Try.prog 34 #[.int .i64 n, .int .i64 k] w (RetQB w (chooseV n k) (chooseB k)) := by
  by_cases hk : 0 ≤ k ∧ k ≤ 64
  · obtain ⟨hk1, hk2⟩ := hk
    obtain ⟨j, rfl⟩ : ∃ j : Nat, k = (j : Int) := ⟨k.toNat, by omega⟩
    have HV := Lib.hid (chooseV_yes (n := n) hk1 hk2)
    rw [Int.toNat_natCast] at HV
    have t1 : decide ((j : Int) < 0) = false := by simp
    have t2 : decide ((64 : Int) < (j : Int)) = false := by simp; omega
    have t3 : decide (64 < j) = false := by simp; omega
    have HF := Lib.hid (fun (wx : World) => falling_q (w := wx) (max 0 n) j (by omega) (by omega) (by omega))
    clear hk1
    by_cases hn : n ≤ 0
    case' pos =>
      have hm : max 0 n = 0 := by omega
      have hc : decide (0 < n) = false := by simpa using hn
      have hc2 : decide (n < 0) = decide (n < 0) := rfl
      rw [hm] at HF HV
      go_enter Try.func34, Try.ntmps34
      go_wp2_with fail
    case' neg =>
      have hm : max 0 n = n := by omega
      have hc : decide (0 < n) = true := by simpa using hn
      rw [hm] at HF HV
      go_enter Try.func34, Try.ntmps34
      go_wp2_with fail
    all_goals
      obtain ⟨w1, hw1⟩ : ∃ w1, w1 = w.alloc (Obj.cells #[.bool false, .slice none 0 0, .slice none 0 0] 31) := ⟨_, rfl⟩
      have U1 : Up w w1 := by rw [hw1]; exact (Below.refl _ _).alloc (Nat.le_refl _) _
      have r1 : Blk w1 w.heap.size 31 #[.bool false, .slice none 0 0, .slice none 0 0] := by rw [hw1]; exact Blk.new' _ _ _ rfl
      rw [← hw1]
      clear hw1
      refine (HF.out w1).mono ?_
      rintro e w2 ⟨v2, rfl, hQ2, U2⟩
      obtain ⟨s2, A2, n2, c2, B2, m2, d2, rfl⟩ := hQ2.shape
      rw [← HV.out.1] at hQ2
      have HQ2 := Lib.hid hQ2
      have r2 := r1.up U2
      clear hQ2
      obtain ⟨x0, x1, x2⟩ := tri r2
      have f0 := r2.frozen 0
      have f1 := r2.frozen 1
      have f2 := r2.frozen 2
      go_wp2_with fail
      obtain ⟨k0, k1, k2⟩ := tri (tri_set r2 (.bool s2) (.slice A2 n2 c2) (.slice B2 m2 d2))
      refine bodyPost_ret (v := .tuple #[.agg #[.bool s2, .slice A2 n2 c2, .slice B2 m2 d2], .bool true]) ?_ rfl (by rw [HV.out.2]; exact ret_qb r2 HQ2.out (U1.trans U2) (Nat.le_refl _))
      simp [results, Try.results34, go_sem, k0, k1, k2]
  · have HV := Lib.hid (chooseV_no (n := n) hk)
    rcases (show k < 0 ∨ (¬ k < 0 ∧ 64 < k) by omega) with h | ⟨h, h2⟩
    case' inl =>
      have t1 : decide (k < 0) = true := by simpa using h
      clear h hk
      go_enter Try.func34, Try.ntmps34
      go_wp2_with fail
    case' inr =>
      have t1 : decide (k < 0) = false := by simpa using h
      have t2 : decide (64 < k) = true := by simpa using h2
      clear h h2 hk
      go_enter Try.func34, Try.ntmps34
      go_wp2_with fail
    all_goals
      obtain ⟨w1, hw1⟩ : ∃ w1, w1 = w.alloc (Obj.cells #[.bool false, .slice none 0 0, .slice none 0 0] 31) := ⟨_, rfl⟩
      have U1 : Up w w1 := by rw [hw1]; exact (Below.refl _ _).alloc (Nat.le_refl _) _
      have r1 : Blk w1 w.heap.size 31 #[.bool false, .slice none 0 0, .slice none 0 0] := by rw [hw1]; exact Blk.new' _ _ _ rfl
      rw [← hw1]
      clear hw1
      refine (fromInt_q 0 (by omega) (by omega)).mono ?_
      rintro e w2 ⟨v2, rfl, hQ2, U2⟩
      obtain ⟨s2, A2, n2, c2, B2, m2, d2, rfl⟩ := hQ2.shape
      rw [← HV.out.1] at hQ2
      have HQ2 := Lib.hid hQ2
      have r2 := r1.up U2
      clear hQ2
      obtain ⟨x0, x1, x2⟩ := tri r2
      have f0 := r2.frozen 0
      have f1 := r2.frozen 1
      have f2 := r2.frozen 2
      go_wp2_with fail
      obtain ⟨k0, k1, k2⟩ := tri (tri_set r2 (.bool s2) (.slice A2 n2 c2) (.slice B2 m2 d2))
      refine bodyPost_ret (v := .tuple #[.agg #[.bool s2, .slice A2 n2 c2, .slice B2 m2 d2], .bool false]) ?_ rfl (by rw [HV.out.2]; exact ret_qb r2 HQ2.out (U1.trans U2) (Nat.le_refl _))
      simp [results, Try.results34, go_sem, k0, k1, k2]
def ov (q : Rat) : Rat := if q < 0 then 0 else q
theorem ov_int (n : Int) : ov (n : Rat) = ((max 0 n : Int) : Rat) := by
  unfold ov
  by_cases h : n < 0
  · rw [if_pos (by rw [show (0 : Rat) = ((0 : Int) : Rat) from rfl]; exact Rat.intCast_lt_intCast.2 h), show max 0 n = 0 by omega]; rfl
  · rw [if_neg (fun h2 => h (by rw [show (0 : Rat) = ((0 : Int) : Rat) from rfl] at h2; exact Rat.intCast_lt_intCast.1 h2)), show max 0 n = n by omega]
theorem sgn_lt0 {q : Rat} : decide (sgn q < 0) = decide (q < 0) := by
  rcases sgn_cases q with ⟨h, e⟩ | ⟨h, e⟩ | ⟨h, e⟩ <;> rw [e]
  · simp [h]
  · simp [h]
  · rw [decide_eq_false (show ¬ q < 0 by grind)]; rfl

end Go.Proofs.Ytkngegcfdabpoaa
