/-
  BinomialDifferences: for every list of rational numbers the law returns true. Conditions: none.
-/
import Derived.Test.YtkngegcfdabpoaaLDiffs
import Derived.Test.YtkngegcfdabpoaaLSame
import Derived.Test.YtkngegcfdabpoaaLLaw
import Derived.Test.YtkngegcfdabpoaaBAwake
namespace Go.Proofs.Ytkngegcfdabpoaa
open Go.RowKit

set_option maxRecDepth 100000 in
set_option maxHeartbeats 6400000 in
theorem BinomialDifferences_walk (A : Option Addr) (ca : Nat) (vs : List Value) (w : World) (hr : EL w w.heap.size A vs) (hx : vs.length ≤ ca ∧ ca ≤ 9223372036854775807 ∧ ∀ u ∈ vs, ∃ s xs ys, RV w u s xs ys) (hnil : A = none → ca = 0) :
    Calls Try.prog 3 #[.slice A vs.length ca] w fun e w' => e = .returned (.bool true) ∧ Up w w' := by
  have HK := Lib.hid (rats_guard hr hx 34 (by omega))
  cases hq : ratsB vs 34 with
  | false =>
    rw [hq] at HK
    clear hr hx hq
    go_enter Try.func3, Try.ntmps3
    go_wp2_with fail
    refine HK.out.mono ?_
    rintro e w1 ⟨rfl, U1⟩
    go_wp2_with fail
    go_ret
    exact ⟨rfl, U1⟩
  | true =>
    rw [hq] at HK
    obtain ⟨ps, hl, hln, hR⟩ := rats_small hr hx hq
    rw [← hl] at HK ⊢
    have h9 := hR.qs9
    have HP1 := Lib.hid (fun wx (h : RX (some 8) wx A ps) => diffs_q (cap := ca) h xb8 (by omega) (by omega) hnil)
    have HP2 := Lib.hid (fun wx (h : RX (some 8) wx A ps) => rDiffs_q (cap := ca) h xb8 (by omega) (by omega) hnil)
    have HM := Lib.hid (diffV_mem h9 (by omega))
    have HL := Lib.hid (show (diffV ps).length ≤ 1000 from Nat.le_trans (diffV_len ps) (by omega))
    obtain ⟨l, hl'⟩ : ∃ l, l = diffV ps := ⟨_, rfl⟩
    obtain ⟨t, ht⟩ : ∃ t, t = diffB ps := ⟨_, rfl⟩
    rw [← hl'] at HP1 HP2 HM HL
    rw [← ht] at HP1 HP2
    clear hl' ht hr hx hq h9 hl hnil
    go_enter Try.func3, Try.ntmps3
    have U : Up w w := Up.refl w
    have R0 := Lib.hid hR
    clear hR
    go_wp2_with fail
    refine (HK.out).mono ?_
    rintro e w1 ⟨rfl, u1⟩
    have ux : Up w w1 := u1
    replace U := Up.trans U ux
    replace R0 := Lib.hid (R0.out.up ux)
    clear ux
    go_wp2_with fail
    refine (HP1.out _ R0.out).mono ?_
    rintro e w2 ⟨A2, c2, rfl, h1, h2, h3, u2⟩
    have L2 := Lib.hid h3
    have H2 := Lib.hid (And.intro h1 h2)
    clear h1 h2 h3
    have ux : Up w1 w2 := u2
    replace U := Up.trans U ux
    replace R0 := Lib.hid (R0.out.up ux)
    clear ux
    go_wp2_with fail
    refine (HP2.out _ R0.out).mono ?_
    rintro e w3 ⟨A3, c3, rfl, h1, h2, h3, u3⟩
    have L3 := Lib.hid h3
    have H3 := Lib.hid (And.intro h1 h2)
    clear h1 h2 h3
    have ux : Up w2 w3 := u3
    replace U := Up.trans U ux
    replace R0 := Lib.hid (R0.out.up ux)
    replace L2 := Lib.hid (L2.out.up ux)
    clear ux
    go_wp2_with fail
    have HS := Lib.hid (sameRats_q (cap := c2) (cap' := c3) L2.out L3.out HM.out HM.out (by unfold dB; omega) HL.out HL.out)
    rw [decide_eq_true rfl] at HS
    refine (HS.out).mono ?_
    rintro e w4 ⟨rfl, u4⟩
    have ux : Up w3 w4 := u4
    replace U := Up.trans U ux
    replace R0 := Lib.hid (R0.out.up ux)
    replace L2 := Lib.hid (L2.out.up ux)
    replace L3 := Lib.hid (L3.out.up ux)
    clear ux
    go_wp2_with fail
    refine (awake02_any _).mono ?_
    rintro e w5 ⟨rfl, u5⟩
    have ux : Up w4 w5 := u5
    replace U := Up.trans U ux
    clear ux
    go_wp2_with fail
    go_ret
    exact ⟨rfl, U⟩
end Go.Proofs.Ytkngegcfdabpoaa
