/-
  The document's Eval.
-/
import Derived.Test.YtiiebgfjdkkdeaaLEval
namespace Go.Proofs.Ytiiebgfjdkkdeaa
open Go.RowKit

set_option maxRecDepth 100000 in
set_option maxHeartbeats 3200000 in
theorem rEval_q {o : Option Nat} {A : Option Addr} {cap : Nat} {ps : List Rat} {B : Nat} {w : World} (h : RX o w A ps) (hB : ∀ q ∈ ps, XB o q B) (hB2 : 2 ≤ B) (hB' : B ≤ 90000) (hl : ps.length ≤ 1000) (n : Int) (hn1 : -9223372036854775808 ≤ n) (hn2 : n ≤ 9223372036854775807) :
    Calls Try.prog 21 #[.slice A ps.length cap, .int .i64 n] w (RetQB w (evalV ps n) (evalB ps)) := by
  by_cases h33 : ps.length ≤ 33
  · have HV := Lib.hid (eval_yes (n := n) h33)
    have HF := Lib.hid (fun (wx : World) => rFromInt_q (w := wx) (max 0 n) (by omega) (by omega))
    obtain ⟨M, hM⟩ : ∃ M : Rat, M = ((max 0 n : Int) : Rat) := ⟨_, rfl⟩
    have HAT := Lib.hid (fun wx vx (u : Up w wx) (hv : QV wx vx M) => at_q (cap := cap) (h.up u) hB hB2 hB' (by omega) (hv.iv (B := 3) (by rw [hM]; exact qs_int _ (by omega) (by omega))) (by omega))
    have t33 : decide (33 < ps.length) = false := by simp; omega
    have t34 : decide ((33 : Int) < (ps.length : Int)) = false := by simp; omega
    rw [← hM] at HF HV
    clear h hB h33 hM
    by_cases hn : n ≤ 0
    case' pos =>
      have hm : max 0 n = 0 := by omega
      have hc : decide (0 < n) = false := by simpa using hn
      rw [hm] at HF
    case' neg =>
      have hm : max 0 n = n := by omega
      have hc : decide (0 < n) = true := by simpa using hn
      rw [hm] at HF
    all_goals
      clear hm
      go_enter Try.func21, Try.ntmps21
      go_wp2_with fail
      obtain ⟨w1, hw1⟩ : ∃ w1, w1 = w.alloc (Obj.cells #[.bool false, .slice none 0 0, .slice none 0 0] 24) := ⟨_, rfl⟩
      have Uw1 : Up w w1 := by rw [hw1]; exact (Below.refl _ _).alloc (Nat.le_refl _) _
      have rw1 : Blk w1 w.heap.size 24 #[.bool false, .slice none 0 0, .slice none 0 0] := by rw [hw1]; exact Blk.new' _ _ _ rfl
      rw [← hw1]
      clear hw1
      refine (HF.out _).mono ?_
      rintro e w2 ⟨v2, rfl, hQ2, U2⟩
      obtain ⟨s2, A2, n2, c2, B2, m2, d2, rfl⟩ := hQ2.shape
      have r2 := rw1.up U2
      have V2 := Uw1.trans U2
      have HQ2 := Lib.hid hQ2
      clear hQ2 rw1 Uw1 U2
      go_wp2_with fail
      refine (HAT.out _ _ V2 HQ2.out).mono ?_
      rintro e w3 ⟨v3, rfl, hQ3, U3⟩
      obtain ⟨sb, Ab, nb, cb, Bb, mb, db, rfl⟩ := hQ3.shape
      rw [← HV.out.1] at hQ3
      have HQ5 := Lib.hid hQ3
      have bz := r2.up U3
      have hU := V2.trans U3
      clear hQ3 r2 V2 U3
      obtain ⟨o0, o1, o2⟩ := tri bz
      have f0 := bz.frozen 0
      have f1 := bz.frozen 1
      have f2 := bz.frozen 2
      go_wp2_with fail
      obtain ⟨k0, k1, k2⟩ := tri (tri_set bz (.bool sb) (.slice Ab nb cb) (.slice Bb mb db))
      refine bodyPost_ret (v := .tuple #[.agg #[.bool sb, .slice Ab nb cb, .slice Bb mb db], .bool true]) ?_ rfl (by rw [HV.out.2]; exact ret_qb bz HQ5.out hU (Nat.le_refl _))
      simp [results, Try.results21, go_sem, k0, k1, k2]
  · have HV := Lib.hid (eval_no (n := n) h33)
    have t33 : decide (33 < ps.length) = true := by simp; omega
    have t34 : decide ((33 : Int) < (ps.length : Int)) = true := by simp; omega
    clear h33 h hB
    go_enter Try.func21, Try.ntmps21
    go_wp2_with fail
    obtain ⟨w1, hw1⟩ : ∃ w1, w1 = w.alloc (Obj.cells #[.bool false, .slice none 0 0, .slice none 0 0] 24) := ⟨_, rfl⟩
    have Uw1 : Up w w1 := by rw [hw1]; exact (Below.refl _ _).alloc (Nat.le_refl _) _
    have rw1 : Blk w1 w.heap.size 24 #[.bool false, .slice none 0 0, .slice none 0 0] := by rw [hw1]; exact Blk.new' _ _ _ rfl
    rw [← hw1]
    clear hw1
    refine (rFromInt_q 0 (by omega) (by omega)).mono ?_
    rintro e w3 ⟨v3, rfl, hQ3, U3⟩
    obtain ⟨sb, Ab, nb, cb, Bb, mb, db, rfl⟩ := hQ3.shape
    rw [← HV.out.1] at hQ3
    have HQ5 := Lib.hid hQ3
    have bz := rw1.up U3
    have hU := Uw1.trans U3
    clear hQ3 rw1 Uw1 U3
    obtain ⟨o0, o1, o2⟩ := tri bz
    have f0 := bz.frozen 0
    have f1 := bz.frozen 1
    have f2 := bz.frozen 2
    go_wp2_with fail
    obtain ⟨k0, k1, k2⟩ := tri (tri_set bz (.bool sb) (.slice Ab nb cb) (.slice Bb mb db))
    refine bodyPost_ret (v := .tuple #[.agg #[.bool sb, .slice Ab nb cb, .slice Bb mb db], .bool false]) ?_ rfl (by rw [HV.out.2]; exact ret_qb bz HQ5.out hU (Nat.le_refl _))
    simp [results, Try.results21, go_sem, k0, k1, k2]
end Go.Proofs.Ytiiebgfjdkkdeaa
