/-
  BinomialAdds: for every two lists of rational numbers the law returns true. Conditions: none.
-/
import Derived.Test.YtkngegcfdabpoaaLAddR
import Derived.Test.YtkngegcfdabpoaaLMul
import Derived.Test.YtkngegcfdabpoaaLMulR
import Derived.Test.YtkngegcfdabpoaaLSame
import Derived.Test.YtkngegcfdabpoaaLLaw
import Derived.Test.YtkngegcfdabpoaaBAwake
namespace Go.Proofs.Ytkngegcfdabpoaa
open Go.RowKit

theorem addV_mem {ps rs : List Rat} {B : Nat} (h1 : ∀ q ∈ ps, qs q ≤ B) (h2 : ∀ q ∈ rs, qs q ≤ B) (hB : 3 ≤ B) : ∀ q ∈ addV ps rs, qs q ≤ 2 * B + 1 := fun q hq => by
  unfold addV at hq
  split at hq
  · exact cutL_mem (padd_mem h1 h2 hB) (by omega) q hq
  · simp at hq
theorem addV_len (ps rs : List Rat) : (addV ps rs).length ≤ 33 := by
  unfold addV
  split
  · have := cutL_len (padd ps rs); rw [padd_len] at this; omega
  · simp
theorem mulV_mem' {ps rs : List Rat} (h1 : ∀ q ∈ ps, qs q ≤ 9) (h2 : ∀ q ∈ rs, qs q ≤ 9) (hl1 : ps.length ≤ 36) (hl2 : rs.length ≤ 36) : ∀ q ∈ mulV ps rs, qs q ≤ 2000000 := fun q hq => by
  have h := mulV_mem h1 h2 (by omega) q hq
  have e1 : rs.length * (2 * 9 + 781) + 4 ≤ 28768 := by omega
  have e2 : ps.length * (rs.length * (2 * 9 + 781) + 4) ≤ 36 * 28768 := Nat.mul_le_mul hl1 e1
  omega

set_option maxRecDepth 100000 in
set_option maxHeartbeats 6400000 in
theorem BinomialAdds_walk (A : Option Addr) (ca : Nat) (vs : List Value) (A2 : Option Addr) (ca2 : Nat) (vs2 : List Value) (w : World) (hr : EL w w.heap.size A vs) (hx : vs.length ≤ ca ∧ ca ≤ 9223372036854775807 ∧ ∀ u ∈ vs, ∃ s xs ys, RV w u s xs ys) (hr2 : EL w w.heap.size A2 vs2) (hx2 : vs2.length ≤ ca2 ∧ ca2 ≤ 9223372036854775807 ∧ ∀ u ∈ vs2, ∃ s xs ys, RV w u s xs ys) :
    Calls Try.prog 6 #[.slice A vs.length ca, .slice A2 vs2.length ca2] w fun e w' => e = .returned (.bool true) ∧ Up w w' := by
  have HK := Lib.hid (rats_guard hr hx 36 (by omega))
  have HK2 := Lib.hid (fun wx (u : Up w wx) => rats_guard (A := A2) (ca := ca2) (hr2.up u) ⟨hx2.1, hx2.2.1, fun v hv => by obtain ⟨s, xs, ys, h⟩ := hx2.2.2 v hv; exact ⟨s, xs, ys, RV.up h u⟩⟩ 36 (by omega))
  cases hq : ratsB vs 36 with
  | false =>
    rw [hq] at HK
    clear hr hx hr2 hx2 hq
    go_enter Try.func6, Try.ntmps6
    go_wp2_with fail
    refine HK.out.mono ?_
    rintro e w1 ⟨rfl, U1⟩
    go_wp2_with fail
    go_ret
    exact ⟨rfl, U1⟩
  | true =>
    rw [hq] at HK
    cases hq2 : ratsB vs2 36 with
    | false =>
      rw [hq2] at HK2
      clear hr hx hr2 hx2 hq hq2
      go_enter Try.func6, Try.ntmps6
      go_wp2_with fail
      refine HK.out.mono ?_
      rintro e w1 ⟨rfl, U1⟩
      go_wp2_with fail
      refine (HK2.out _ U1).mono ?_
      rintro e w2 ⟨rfl, U2⟩
      go_wp2_with fail
      go_ret
      exact ⟨rfl, U1.trans U2⟩
    | true =>
      rw [hq2] at HK2
      obtain ⟨ps, hl, hln, hR⟩ := rats_small hr hx hq
      obtain ⟨rs, hl2, hln2, hR2⟩ := rats_small hr2 hx2 hq2
      rw [← hl] at HK ⊢
      rw [← hl2] at HK2 ⊢
      have h9 := hR.qs9
      have h92 := hR2.qs9
      have HP1 := Lib.hid (fun wx (h : RX (some 8) wx A ps) (h' : RX (some 8) wx A2 rs) => addL_q (c1 := ca) (c2 := ca2) h h' xb8 xb8 (by omega) (by omega) (by omega) (by omega))
      have HP2 := Lib.hid (fun wx (h : RX (some 8) wx A ps) (h' : RX (some 8) wx A2 rs) => rAddL_q (c1 := ca) (c2 := ca2) h h' xb8 xb8 (by omega) (by omega) (by omega) (by omega))
      have HP3 := Lib.hid (fun wx (h : RX (some 8) wx A ps) (h' : RX (some 8) wx A2 rs) => mulL_q (c1 := ca) (c2 := ca2) h h' xb8 xb8 (by omega) (by omega) (by omega) (by omega))
      have HP4 := Lib.hid (fun wx (h : RX (some 8) wx A ps) (h' : RX (some 8) wx A2 rs) => rMulL_q (c1 := ca) (c2 := ca2) h h' xb8 xb8 (by omega) (by omega) (by omega) (by omega))
      have HM := Lib.hid (addV_mem h9 h92 (by omega))
      have HL := Lib.hid (show (addV ps rs).length ≤ 1000 from Nat.le_trans (addV_len ps rs) (by omega))
      have HM2 := Lib.hid (mulV_mem' h9 h92 hln hln2)
      have HL2 := Lib.hid (show (mulV ps rs).length ≤ 1000 from Nat.le_trans (mulV_len ps rs) (by omega))
      obtain ⟨l, hl'⟩ : ∃ l, l = addV ps rs := ⟨_, rfl⟩
      obtain ⟨t, ht⟩ : ∃ t, t = addB ps rs := ⟨_, rfl⟩
      obtain ⟨l2, hl2'⟩ : ∃ l, l = mulV ps rs := ⟨_, rfl⟩
      obtain ⟨t2, ht2⟩ : ∃ t, t = mulB ps rs := ⟨_, rfl⟩
      rw [← hl'] at HP1 HP2 HM HL
      rw [← ht] at HP1 HP2
      rw [← hl2'] at HP3 HP4 HM2 HL2
      rw [← ht2] at HP3 HP4
      clear hl' ht hl2' ht2 hr hx hr2 hx2 hq hq2 h9 h92 hl hl2
      go_enter Try.func6, Try.ntmps6
      have U : Up w w := Up.refl w
      have R0 := Lib.hid hR
      have R1 := Lib.hid hR2
      clear hR hR2
      go_wp2_with fail
      refine (HK.out).mono ?_
      rintro e w1 ⟨rfl, u1⟩
      have ux : Up w w1 := u1
      replace U := Up.trans U ux
      replace R0 := Lib.hid (R0.out.up ux)
      replace R1 := Lib.hid (R1.out.up ux)
      clear ux
      go_wp2_with fail
      refine (HK2.out _ U).mono ?_
      rintro e w2 ⟨rfl, u2⟩
      have ux : Up w1 w2 := u2
      replace U := Up.trans U ux
      replace R0 := Lib.hid (R0.out.up ux)
      replace R1 := Lib.hid (R1.out.up ux)
      clear ux
      go_wp2_with fail
      refine (HP1.out _ R0.out R1.out).mono ?_
      rintro e w3 ⟨A3, c3, rfl, h1, h2, h3, u3⟩
      have L3 := Lib.hid h3
      have H3 := Lib.hid (And.intro h1 h2)
      clear h1 h2 h3
      have ux : Up w2 w3 := u3
      replace U := Up.trans U ux
      replace R0 := Lib.hid (R0.out.up ux)
      replace R1 := Lib.hid (R1.out.up ux)
      clear ux
      go_wp2_with fail
      refine (HP2.out _ R0.out R1.out).mono ?_
      rintro e w4 ⟨A4, c4, rfl, h1, h2, h3, u4⟩
      have L4 := Lib.hid h3
      have H4 := Lib.hid (And.intro h1 h2)
      clear h1 h2 h3
      have ux : Up w3 w4 := u4
      replace U := Up.trans U ux
      replace R0 := Lib.hid (R0.out.up ux)
      replace R1 := Lib.hid (R1.out.up ux)
      replace L3 := Lib.hid (L3.out.up ux)
      clear ux
      go_wp2_with fail
      have HS := Lib.hid (sameRats_q (cap := c3) (cap' := c4) L3.out L4.out HM.out HM.out (by omega) HL.out HL.out)
      rw [decide_eq_true rfl] at HS
      refine (HS.out).mono ?_
      rintro e w5 ⟨rfl, u5⟩
      have ux : Up w4 w5 := u5
      replace U := Up.trans U ux
      replace R0 := Lib.hid (R0.out.up ux)
      replace R1 := Lib.hid (R1.out.up ux)
      replace L3 := Lib.hid (L3.out.up ux)
      replace L4 := Lib.hid (L4.out.up ux)
      clear ux
      go_wp2_with fail
      refine (awake02_any _).mono ?_
      rintro e w6 ⟨rfl, u6⟩
      have ux : Up w5 w6 := u6
      replace U := Up.trans U ux
      replace R0 := Lib.hid (R0.out.up ux)
      replace R1 := Lib.hid (R1.out.up ux)
      clear ux
      go_wp2_with fail
      refine (HP3.out _ R0.out R1.out).mono ?_
      rintro e w7 ⟨A7, c7, rfl, h1, h2, h3, u7⟩
      have L7 := Lib.hid h3
      have H7 := Lib.hid (And.intro h1 h2)
      clear h1 h2 h3
      have ux : Up w6 w7 := u7
      replace U := Up.trans U ux
      replace R0 := Lib.hid (R0.out.up ux)
      replace R1 := Lib.hid (R1.out.up ux)
      clear ux
      go_wp2_with fail
      refine (HP4.out _ R0.out R1.out).mono ?_
      rintro e w8 ⟨A8, c8, rfl, h1, h2, h3, u8⟩
      have L8 := Lib.hid h3
      have H8 := Lib.hid (And.intro h1 h2)
      clear h1 h2 h3
      have ux : Up w7 w8 := u8
      replace U := Up.trans U ux
      replace R0 := Lib.hid (R0.out.up ux)
      replace R1 := Lib.hid (R1.out.up ux)
      replace L7 := Lib.hid (L7.out.up ux)
      clear ux
      go_wp2_with fail
      have HS2 := Lib.hid (sameRats_q (cap := c7) (cap' := c8) L7.out L8.out HM2.out HM2.out (by omega) HL2.out HL2.out)
      rw [decide_eq_true rfl] at HS2
      refine (HS2.out).mono ?_
      rintro e w9 ⟨rfl, u9⟩
      have ux : Up w8 w9 := u9
      replace U := Up.trans U ux
      replace R0 := Lib.hid (R0.out.up ux)
      replace R1 := Lib.hid (R1.out.up ux)
      replace L7 := Lib.hid (L7.out.up ux)
      replace L8 := Lib.hid (L8.out.up ux)
      clear ux
      go_wp2_with fail
      go_ret
      exact ⟨rfl, U⟩
end Go.Proofs.Ytkngegcfdabpoaa
