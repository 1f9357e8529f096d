/-
  BinomialEvals: for every list of rational numbers and every integer the law returns true. Conditions: none.
-/
import Derived.Test.YtiiebgfjdkkdeaaLEvalR
import Derived.Test.YtiiebgfjdkkdeaaLSame
import Derived.Test.YtiiebgfjdkkdeaaLLaw
import Derived.Test.YtiiebgfjdkkdeaaLCanR
import Derived.Test.YtiiebgfjdkkdeaaBAwake
namespace Go.Proofs.Ytiiebgfjdkkdeaa
open Go.RowKit

set_option maxRecDepth 100000 in
set_option maxHeartbeats 6400000 in
theorem BinomialEvals_walk (A : Option Addr) (ca : Nat) (vs : List Value) (n : Int) (w : World) (hr : EL w w.heap.size A vs) (hx : vs.length ≤ ca ∧ ca ≤ 9223372036854775807 ∧ ∀ u ∈ vs, ∃ s xs ys, RV w u s xs ys) (hn : (Lit.int .i64 n).wf = true) :
    Calls Try.prog 7 #[.slice A vs.length ca, .int .i64 n] w fun e w' => e = .returned (.bool true) ∧ Up w w' := by
  simp [Lit.wf, IntKind.min, IntKind.max, IntKind.bits, IntKind.signed] at hn
  obtain ⟨hn1, hn2⟩ := hn
  by_cases h40 : 40 < vs.length
  · have t0 : decide (40 < vs.length) = true := by simpa using h40
    have t1 : decide ((40 : Int) < (vs.length : Int)) = true := by simp; omega
    clear hr hx
    go_enter Try.func7, Try.ntmps7
    go_wp2_with fail
    go_ret
    exact ⟨rfl, Up.refl _⟩
  have HK := Lib.hid (rats_guard hr hx 40 (by omega))
  have t0 : decide (40 < vs.length) = false := by simpa using h40
  have t1 : decide ((40 : Int) < (vs.length : Int)) = false := by simp; omega
  cases hq : ratsB vs 40 with
  | false =>
    rw [hq] at HK
    clear h40
    clear hr hx hq
    go_enter Try.func7, Try.ntmps7
    go_wp2_with fail
    refine HK.out.mono ?_
    rintro e w1 ⟨rfl, U1⟩
    go_wp2_with fail
    go_ret
    exact ⟨rfl, U1⟩
  | true =>
    rw [hq] at HK
    obtain ⟨ps, hl, hln, hR⟩ := rats_small hr hx hq
    rw [← hl] at HK t0 t1 h40 ⊢
    have h9 := hR.qs9
    have HP1 := Lib.hid (fun wx (h : RX (some 8) wx A ps) => eval_q (cap := ca) h xb8 (by omega) (by omega) (by omega) n hn1 hn2)
    have HP2 := Lib.hid (fun wx (h : RX (some 8) wx A ps) => rEval_q (cap := ca) h xb8 (by omega) (by omega) (by omega) n hn1 hn2)
    have HC1 := Lib.hid (fun wx (h : RX (some 8) wx A ps) => bCanonical_q (cap := ca) h xb8 (by omega) (by omega))
    have HC2 := Lib.hid (fun wx (h : RX (some 8) wx A ps) => rCanon_q (cap := ca) h xb8 (by omega) (by omega))
    have HM := Lib.hid (cutL_mem h9 (by omega))
    have HL := Lib.hid (show (cutL ps).length ≤ 1000 from Nat.le_trans (cutL_len ps) (by omega))
    have HQ := Lib.hid (show qs (evalV ps n) ≤ 17179869184 from Nat.le_trans (qs_evalV ps 9 h9 (by omega) n hn2) (by omega))
    obtain ⟨q, hq'⟩ : ∃ q, q = evalV ps n := ⟨_, rfl⟩
    obtain ⟨t, ht⟩ : ∃ t, t = evalB ps := ⟨_, rfl⟩
    rw [← hq'] at HP1 HP2 HQ
    rw [← ht] at HP1 HP2
    clear hq' ht hr hx hq h9 hl h40
    go_enter Try.func7, Try.ntmps7
    have U : Up w w := Up.refl w
    have R0 := Lib.hid hR
    clear hR
    go_wp2_with fail
    refine (HK.out).mono ?_
    rintro e w1 ⟨rfl, u1⟩
    have ux : Up w w1 := u1
    replace U := Up.trans U ux
    replace R0 := Lib.hid (R0.out.up ux)
    clear ux
    go_wp2_with fail
    refine (HP1.out _ R0.out).mono ?_
    rintro e w2 ⟨v2, rfl, hQ2, u2⟩
    obtain ⟨s2, A2, n2, c2, B2, m2, d2, rfl⟩ := hQ2.shape
    have Q2 := Lib.hid hQ2
    clear hQ2
    have ux : Up w1 w2 := u2
    replace U := Up.trans U ux
    replace R0 := Lib.hid (R0.out.up ux)
    clear ux
    go_wp2_with fail
    obtain ⟨w3, hw3⟩ : ∃ wx, wx = (w2.alloc (Obj.cells #[.bool s2, .slice A2 n2 c2, .slice B2 m2 d2] 24)) := ⟨_, rfl⟩
    have hUw3 : Up w2 w3 := by rw [hw3]; exact Below.alloc (Below.refl _ _) (Nat.le_refl _) _
    have bx2 : Blk w3 (w2.heap.size) 24 #[.bool s2, .slice A2 n2 c2, .slice B2 m2 d2] := by rw [hw3]; exact Blk.new' _ _ _ (by simp)
    rw [← hw3]
    clear hw3
    obtain ⟨g2, hg2⟩ : ∃ g, g = w2.heap.size := ⟨_, rfl⟩
    rw [← hg2] at bx2
    try rw [show w2.heap.size = g2 from hg2.symm]
    clear hg2
    have ux : Up w2 w3 := hUw3
    replace U := Up.trans U ux
    replace R0 := Lib.hid (R0.out.up ux)
    replace Q2 := Lib.hid (Q2.out.up ux)
    clear ux
    clear hUw3
    obtain ⟨bx2a, bx2b, bx2c⟩ := tri bx2
    go_wp2_with fail
    refine (HP2.out _ R0.out).mono ?_
    rintro e w4 ⟨v4, rfl, hQ4, u4⟩
    obtain ⟨s4, A4, n4, c4, B4, m4, d4, rfl⟩ := hQ4.shape
    have Q4 := Lib.hid hQ4
    clear hQ4
    have ux : Up w3 w4 := u4
    replace U := Up.trans U ux
    replace R0 := Lib.hid (R0.out.up ux)
    replace Q2 := Lib.hid (Q2.out.up ux)
    replace bx2 := Blk.up bx2 ux
    clear ux
    clear bx2a bx2b bx2c
    obtain ⟨bx2a, bx2b, bx2c⟩ := tri bx2
    have zbx2 := bx2.lt
    go_wp2_with fail
    clear zbx2
    obtain ⟨w5, hw5⟩ : ∃ wx, wx = (w4.alloc (Obj.cells #[.bool s4, .slice A4 n4 c4, .slice B4 m4 d4] 24)) := ⟨_, rfl⟩
    have hUw5 : Up w4 w5 := by rw [hw5]; exact Below.alloc (Below.refl _ _) (Nat.le_refl _) _
    have bx4 : Blk w5 (w4.heap.size) 24 #[.bool s4, .slice A4 n4 c4, .slice B4 m4 d4] := by rw [hw5]; exact Blk.new' _ _ _ (by simp)
    rw [← hw5]
    clear hw5
    obtain ⟨g4, hg4⟩ : ∃ g, g = w4.heap.size := ⟨_, rfl⟩
    rw [← hg4] at bx4
    try rw [show w4.heap.size = g4 from hg4.symm]
    clear hg4
    have ux : Up w4 w5 := hUw5
    replace U := Up.trans U ux
    replace R0 := Lib.hid (R0.out.up ux)
    replace Q2 := Lib.hid (Q2.out.up ux)
    replace Q4 := Lib.hid (Q4.out.up ux)
    replace bx2 := Blk.up bx2 ux
    clear ux
    clear hUw5
    clear bx2a bx2b bx2c
    obtain ⟨bx2a, bx2b, bx2c⟩ := tri bx2
    obtain ⟨bx4a, bx4b, bx4c⟩ := tri bx4
    go_wp2_with fail
    refine (HC1.out _ R0.out).mono ?_
    rintro e w6 ⟨g6, rfl, h1, h2, u6⟩
    have L6 := Lib.hid h2.rx
    clear h1 h2
    have ux : Up w5 w6 := u6
    replace U := Up.trans U ux
    replace R0 := Lib.hid (R0.out.up ux)
    replace Q2 := Lib.hid (Q2.out.up ux)
    replace Q4 := Lib.hid (Q4.out.up ux)
    replace bx2 := Blk.up bx2 ux
    replace bx4 := Blk.up bx4 ux
    clear ux
    clear bx2a bx2b bx2c bx4a bx4b bx4c
    obtain ⟨bx2a, bx2b, bx2c⟩ := tri bx2
    obtain ⟨bx4a, bx4b, bx4c⟩ := tri bx4
    go_wp2_with fail
    refine (HC2.out _ R0.out).mono ?_
    rintro e w7 ⟨A7, c7, rfl, h1, h2, h3, u7⟩
    have L7 := Lib.hid h3
    have H7 := Lib.hid (And.intro h1 h2)
    clear h1 h2 h3
    have ux : Up w6 w7 := u7
    replace U := Up.trans U ux
    replace R0 := Lib.hid (R0.out.up ux)
    replace Q2 := Lib.hid (Q2.out.up ux)
    replace Q4 := Lib.hid (Q4.out.up ux)
    replace L6 := Lib.hid (L6.out.up ux)
    replace bx2 := Blk.up bx2 ux
    replace bx4 := Blk.up bx4 ux
    clear ux
    clear bx2a bx2b bx2c bx4a bx4b bx4c
    obtain ⟨bx2a, bx2b, bx2c⟩ := tri bx2
    obtain ⟨bx4a, bx4b, bx4c⟩ := tri bx4
    go_wp2_with fail
    have HS := Lib.hid (sameRats_q (cap := (cutL ps).length) (cap' := c7) L6.out L7.out HM.out HM.out (by omega) HL.out HL.out)
    rw [decide_eq_true rfl] at HS
    refine (HS.out).mono ?_
    rintro e w8 ⟨rfl, u8⟩
    have ux : Up w7 w8 := u8
    replace U := Up.trans U ux
    replace R0 := Lib.hid (R0.out.up ux)
    replace Q2 := Lib.hid (Q2.out.up ux)
    replace Q4 := Lib.hid (Q4.out.up ux)
    replace L6 := Lib.hid (L6.out.up ux)
    replace L7 := Lib.hid (L7.out.up ux)
    replace bx2 := Blk.up bx2 ux
    replace bx4 := Blk.up bx4 ux
    clear ux
    clear bx2a bx2b bx2c bx4a bx4b bx4c
    obtain ⟨bx2a, bx2b, bx2c⟩ := tri bx2
    obtain ⟨bx4a, bx4b, bx4c⟩ := tri bx4
    go_wp2_with fail
    have HS2 := Lib.hid (sameRat_q Q2.out Q4.out HQ.out HQ.out)
    rw [decide_eq_true rfl] at HS2
    refine (HS2.out).mono ?_
    rintro e w9 ⟨rfl, u9⟩
    have ux : Up w8 w9 := u9
    replace U := Up.trans U ux
    replace R0 := Lib.hid (R0.out.up ux)
    replace Q2 := Lib.hid (Q2.out.up ux)
    replace Q4 := Lib.hid (Q4.out.up ux)
    replace bx2 := Blk.up bx2 ux
    replace bx4 := Blk.up bx4 ux
    clear ux
    clear bx2a bx2b bx2c bx4a bx4b bx4c
    obtain ⟨bx2a, bx2b, bx2c⟩ := tri bx2
    obtain ⟨bx4a, bx4b, bx4c⟩ := tri bx4
    go_wp2_with fail
    refine (awake02_any _).mono ?_
    rintro e w10 ⟨rfl, u10⟩
    have ux : Up w9 w10 := u10
    replace U := Up.trans U ux
    replace bx2 := Blk.up bx2 ux
    replace bx4 := Blk.up bx4 ux
    clear ux
    clear bx2a bx2b bx2c bx4a bx4b bx4c
    obtain ⟨bx2a, bx2b, bx2c⟩ := tri bx2
    obtain ⟨bx4a, bx4b, bx4c⟩ := tri bx4
    go_wp2_with fail
    go_ret
    exact ⟨rfl, U⟩
end Go.Proofs.Ytiiebgfjdkkdeaa
