/-
  BinomialShifts: for every list of rational numbers and every integer the law returns true. Conditions: none.
-/
import Derived.Test.YtiiebgfjdkkdeaaLShift
import Derived.Test.YtiiebgfjdkkdeaaLSame
import Derived.Test.YtiiebgfjdkkdeaaLLaw
import Derived.Test.YtiiebgfjdkkdeaaBAwake
namespace Go.Proofs.Ytiiebgfjdkkdeaa
open Go.RowKit

theorem qs_psh {ps : List Rat} {B : Nat} (h : ∀ q ∈ ps, qs q ≤ B) (hB : 3 ≤ B) (hl : ps.length ≤ 63) (c : Int) (h1 : -1048576 ≤ c) (h2 : c ≤ 1048576) : ∀ q ∈ psh ps (c : Rat), qs q ≤ 64 * (B + 388) + 3 := by
  rw [← shL_end]; exact qs_shL ps B h hB c (by omega) (by omega) ps.length 0 (by omega)
theorem shV_mem {ps : List Rat} {B : Nat} (h : ∀ q ∈ ps, qs q ≤ B) (hB : 3 ≤ B) (c : Int) : ∀ q ∈ shV ps c, qs q ≤ 64 * (B + 388) + 3 := fun q hq => by
  unfold shV at hq
  split at hq
  · rename_i hc
    exact cutL_mem (qs_psh h hB (by omega) c hc.2.1 hc.2.2) (by omega) q hq
  · simp at hq
theorem shV_len (ps : List Rat) (c : Int) : (shV ps c).length ≤ ps.length := by
  unfold shV
  split
  · have := cutL_len (psh ps (c : Rat)); rw [psh_len] at this; exact this
  · simp

set_option maxRecDepth 100000 in
set_option maxHeartbeats 6400000 in
theorem BinomialShifts_walk (A : Option Addr) (ca : Nat) (vs : List Value) (c : Int) (w : World) (hr : EL w w.heap.size A vs) (hx : vs.length ≤ ca ∧ ca ≤ 9223372036854775807 ∧ ∀ u ∈ vs, ∃ s xs ys, RV w u s xs ys) (hc : (Lit.int .i64 c).wf = true) :
    Calls Try.prog 8 #[.slice A vs.length ca, .int .i64 c] w fun e w' => e = .returned (.bool true) ∧ Up w w' := by
  simp [Lit.wf, IntKind.min, IntKind.max, IntKind.bits, IntKind.signed] at hc
  obtain ⟨hc1, hc2⟩ := hc
  have HK := Lib.hid (rats_guard hr hx 34 (by omega))
  cases hq : ratsB vs 34 with
  | false =>
    rw [hq] at HK
    clear hr hx hq
    go_enter Try.func8, Try.ntmps8
    go_wp2_with fail
    refine HK.out.mono ?_
    rintro e w1 ⟨rfl, U1⟩
    go_wp2_with fail
    go_ret
    exact ⟨rfl, U1⟩
  | true =>
    rw [hq] at HK
    obtain ⟨ps, hl, hln, hR⟩ := rats_small hr hx hq
    rw [← hl] at HK ⊢
    have h9 := hR.qs9
    have HP1 := Lib.hid (fun wx (h : RX (some 8) wx A ps) => shift_q (cap := ca) h xb8 (by omega) (by omega) (by omega) c hc1 hc2)
    have HP2 := Lib.hid (fun wx (h : RX (some 8) wx A ps) => rShift_q (cap := ca) h xb8 (by omega) (by omega) (by omega) c hc1 hc2)
    have HM := Lib.hid (shV_mem h9 (by omega) c)
    have HL := Lib.hid (show (shV ps c).length ≤ 1000 from Nat.le_trans (shV_len ps c) (by omega))
    obtain ⟨l, hl'⟩ : ∃ l, l = shV ps c := ⟨_, rfl⟩
    obtain ⟨t, ht⟩ : ∃ t, t = shB ps c := ⟨_, rfl⟩
    rw [← hl'] at HP1 HP2 HM HL
    rw [← ht] at HP1 HP2
    clear hl' ht hr hx hq h9 hl
    go_enter Try.func8, Try.ntmps8
    have U : Up w w := Up.refl w
    have R0 := Lib.hid hR
    clear hR
    go_wp2_with fail
    refine (HK.out).mono ?_
    rintro e w1 ⟨rfl, u1⟩
    have ux : Up w w1 := u1
    replace U := Up.trans U ux
    replace R0 := Lib.hid (R0.out.up ux)
    clear ux
    go_wp2_with fail
    refine (HP1.out _ R0.out).mono ?_
    rintro e w2 ⟨A2, c2, rfl, h1, h2, h3, u2⟩
    have L2 := Lib.hid h3
    have H2 := Lib.hid (And.intro h1 h2)
    clear h1 h2 h3
    have ux : Up w1 w2 := u2
    replace U := Up.trans U ux
    replace R0 := Lib.hid (R0.out.up ux)
    clear ux
    go_wp2_with fail
    refine (HP2.out _ R0.out).mono ?_
    rintro e w3 ⟨A3, c3, rfl, h1, h2, h3, u3⟩
    have L3 := Lib.hid h3
    have H3 := Lib.hid (And.intro h1 h2)
    clear h1 h2 h3
    have ux : Up w2 w3 := u3
    replace U := Up.trans U ux
    replace R0 := Lib.hid (R0.out.up ux)
    replace L2 := Lib.hid (L2.out.up ux)
    clear ux
    go_wp2_with fail
    have HS := Lib.hid (sameRats_q (cap := c2) (cap' := c3) L2.out L3.out HM.out HM.out (by omega) HL.out HL.out)
    rw [decide_eq_true rfl] at HS
    refine (HS.out).mono ?_
    rintro e w4 ⟨rfl, u4⟩
    have ux : Up w3 w4 := u4
    replace U := Up.trans U ux
    replace R0 := Lib.hid (R0.out.up ux)
    replace L2 := Lib.hid (L2.out.up ux)
    replace L3 := Lib.hid (L3.out.up ux)
    clear ux
    go_wp2_with fail
    refine (awake02_any _).mono ?_
    rintro e w5 ⟨rfl, u5⟩
    have ux : Up w4 w5 := u5
    replace U := Up.trans U ux
    clear ux
    go_wp2_with fail
    go_ret
    exact ⟨rfl, U⟩
end Go.Proofs.Ytiiebgfjdkkdeaa
