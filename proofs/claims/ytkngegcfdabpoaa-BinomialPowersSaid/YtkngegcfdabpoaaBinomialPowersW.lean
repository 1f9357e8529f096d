/-
  BinomialPowers: for every list of rational numbers the law returns true. Conditions: none.
-/
import Derived.Test.YtkngegcfdabpoaaLPowR
import Derived.Test.YtkngegcfdabpoaaLPowP
import Derived.Test.YtkngegcfdabpoaaLFp
import Derived.Test.YtkngegcfdabpoaaLFpR
import Derived.Test.YtkngegcfdabpoaaLSame
import Derived.Test.YtkngegcfdabpoaaLLaw
import Derived.Test.YtkngegcfdabpoaaBAwake
namespace Go.Proofs.Ytkngegcfdabpoaa
open Go.RowKit

set_option maxRecDepth 100000 in
set_option maxHeartbeats 6400000 in
theorem BinomialPowers_walk (A : Option Addr) (ca : Nat) (vs : List Value) (w : World) (hr : EL w w.heap.size A vs) (hx : vs.length ≤ ca ∧ ca ≤ 9223372036854775807 ∧ ∀ u ∈ vs, ∃ s xs ys, RV w u s xs ys) :
    Calls Try.prog 5 #[.slice A vs.length ca] w fun e w' => e = .returned (.bool true) ∧ Up w w' := by
  have HK := Lib.hid (rats_guard hr hx 34 (by omega))
  cases hq : ratsB vs 34 with
  | false =>
    rw [hq] at HK
    clear hr hx hq
    go_enter Try.func5, Try.ntmps5
    go_wp2_with fail
    refine HK.out.mono ?_
    rintro e w1 ⟨rfl, U1⟩
    go_wp2_with fail
    go_ret
    exact ⟨rfl, U1⟩
  | true =>
    rw [hq] at HK
    obtain ⟨ps, hl, hln, hR⟩ := rats_small hr hx hq
    rw [← hl] at HK ⊢
    have h9 := hR.qs9
    have HP1 := Lib.hid (fun wx (h : RX (some 8) wx A ps) => powers_q (cap0 := ca) h xb8 (by omega) (by omega) (by omega))
    have HP2 := Lib.hid (fun wx (h : RX (some 8) wx A ps) => rPowers_q (cap0 := ca) h xb8 (by omega) (by omega) (by omega))
    have HP3 := Lib.hid (fun wx (h : RX (some 8) wx A ps) => fromPowers_q (cap0 := ca) h xb8 (by omega) (by omega) (by omega))
    have HP4 := Lib.hid (fun wx (h : RX (some 8) wx A ps) => rFromPowers_q (cap0 := ca) h xb8 (by omega) (by omega) (by omega))
    have HM := Lib.hid (powV_mem h9)
    have HL := Lib.hid (show (powV ps).length ≤ 1000 from Nat.le_trans (powV_len ps) (by omega))
    have HM2 := Lib.hid (fpV_mem h9)
    have HL2 := Lib.hid (show (fpV ps).length ≤ 1000 from Nat.le_trans (fpV_len ps) (by omega))
    obtain ⟨l, hl'⟩ : ∃ l, l = powV ps := ⟨_, rfl⟩
    obtain ⟨l2, hl2⟩ : ∃ l, l = fpV ps := ⟨_, rfl⟩
    obtain ⟨t, ht⟩ : ∃ t, t = powB ps := ⟨_, rfl⟩
    rw [← hl'] at HP1 HP2 HM HL
    rw [← hl2] at HP3 HP4 HM2 HL2
    rw [← ht] at HP1 HP2 HP3 HP4
    clear hl' hl2 ht hr hx hq h9 hl
    go_enter Try.func5, Try.ntmps5
    have U : Up w w := Up.refl w
    have R0 := Lib.hid hR
    clear hR
    go_wp2_with fail
    refine (HK.out).mono ?_
    rintro e w1 ⟨rfl, u1⟩
    have ux : Up w w1 := u1
    replace U := Up.trans U ux
    replace R0 := Lib.hid (R0.out.up ux)
    clear ux
    go_wp2_with fail
    refine (HP1.out _ R0.out).mono ?_
    rintro e w2 ⟨A2, c2, rfl, h1, h2, h3, u2⟩
    have L2 := Lib.hid h3
    have H2 := Lib.hid (And.intro h1 h2)
    clear h1 h2 h3
    have ux : Up w1 w2 := u2
    replace U := Up.trans U ux
    replace R0 := Lib.hid (R0.out.up ux)
    clear ux
    go_wp2_with fail
    refine (HP2.out _ R0.out).mono ?_
    rintro e w3 ⟨A3, c3, rfl, h1, h2, h3, u3⟩
    have L3 := Lib.hid h3
    have H3 := Lib.hid (And.intro h1 h2)
    clear h1 h2 h3
    have ux : Up w2 w3 := u3
    replace U := Up.trans U ux
    replace R0 := Lib.hid (R0.out.up ux)
    replace L2 := Lib.hid (L2.out.up ux)
    clear ux
    go_wp2_with fail
    refine (HP3.out _ R0.out).mono ?_
    rintro e w4 ⟨A4, c4, rfl, h1, h2, h3, u4⟩
    have L4 := Lib.hid h3
    have H4 := Lib.hid (And.intro h1 h2)
    clear h1 h2 h3
    have ux : Up w3 w4 := u4
    replace U := Up.trans U ux
    replace R0 := Lib.hid (R0.out.up ux)
    replace L2 := Lib.hid (L2.out.up ux)
    replace L3 := Lib.hid (L3.out.up ux)
    clear ux
    go_wp2_with fail
    refine (HP4.out _ R0.out).mono ?_
    rintro e w5 ⟨A5, c5, rfl, h1, h2, h3, u5⟩
    have L5 := Lib.hid h3
    have H5 := Lib.hid (And.intro h1 h2)
    clear h1 h2 h3
    have ux : Up w4 w5 := u5
    replace U := Up.trans U ux
    replace R0 := Lib.hid (R0.out.up ux)
    replace L2 := Lib.hid (L2.out.up ux)
    replace L3 := Lib.hid (L3.out.up ux)
    replace L4 := Lib.hid (L4.out.up ux)
    clear ux
    go_wp2_with fail
    have HS := Lib.hid (sameRats_q (cap := c2) (cap' := c3) L2.out L3.out HM.out HM.out (by unfold pB; omega) HL.out HL.out)
    rw [decide_eq_true rfl] at HS
    refine (HS.out).mono ?_
    rintro e w6 ⟨rfl, u6⟩
    have ux : Up w5 w6 := u6
    replace U := Up.trans U ux
    replace R0 := Lib.hid (R0.out.up ux)
    replace L2 := Lib.hid (L2.out.up ux)
    replace L3 := Lib.hid (L3.out.up ux)
    replace L4 := Lib.hid (L4.out.up ux)
    replace L5 := Lib.hid (L5.out.up ux)
    clear ux
    have HS2 := Lib.hid (sameRats_q (cap := c4) (cap' := c5) L4.out L5.out HM2.out HM2.out (by unfold pB; omega) HL2.out HL2.out)
    rw [decide_eq_true rfl] at HS2
    go_wp2_with fail
    refine (HS2.out).mono ?_
    rintro e w7 ⟨rfl, u7⟩
    have ux : Up w6 w7 := u7
    replace U := Up.trans U ux
    replace R0 := Lib.hid (R0.out.up ux)
    replace L4 := Lib.hid (L4.out.up ux)
    replace L5 := Lib.hid (L5.out.up ux)
    clear ux
    go_wp2_with fail
    refine (awake02_any _).mono ?_
    rintro e w8 ⟨rfl, u8⟩
    have ux : Up w7 w8 := u8
    replace U := Up.trans U ux
    clear ux
    go_wp2_with fail
    go_ret
    exact ⟨rfl, U⟩
end Go.Proofs.Ytkngegcfdabpoaa
