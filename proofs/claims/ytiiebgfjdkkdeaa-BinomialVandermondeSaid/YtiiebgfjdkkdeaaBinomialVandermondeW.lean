/-
  BinomialVandermonde: for every list of rational numbers and every two integers the law returns true. Conditions: none.
-/
import Derived.Test.YtiiebgfjdkkdeaaBinomialShiftsW
import Derived.Test.YtiiebgfjdkkdeaaLEval
namespace Go.Proofs.Ytiiebgfjdkkdeaa
open Go.RowKit

/-- Shifted and shifted back. -/
theorem shift_back {ps : List Rat} {c : Int} (h1 : ps.length ≤ 33) (h2 : -1048576 ≤ c) (h3 : c ≤ 1048576) : shV (shV ps c) (-c) = cutL ps ∧ shB (shV ps c) (-c) = true ∧ shB ps c = true := by
  have hl := shV_len ps c
  rw [(sh_yes (ps := shV ps c) (c := -c) (by omega) (by omega) (by omega)).1, (sh_yes (ps := shV ps c) (c := -c) (by omega) (by omega) (by omega)).2, (sh_yes h1 h2 h3).2, (sh_yes h1 h2 h3).1]
  refine ⟨cut_of_values fun n => ?_, rfl, rfl⟩
  rw [psh_pat, pat_cut, psh_pat, Rat.intCast_neg]
  congr 1
  grind
theorem vander_eval {ps : List Rat} {c n : Int} (h1 : ps.length ≤ 33) (h2 : -1048576 ≤ c) (h3 : c ≤ 1048576) (h4 : 0 ≤ n) (h5 : 0 ≤ n + c) : evalV (shV ps c) n = evalV ps (n + c) ∧ evalB (shV ps c) = true ∧ evalB ps = true := by
  have hl := shV_len ps c
  rw [(eval_yes (ps := shV ps c) (n := n) (by omega)).1, (eval_yes (ps := shV ps c) (n := n) (by omega)).2, (eval_yes (ps := ps) (n := n + c) h1).1, (eval_yes (ps := ps) (n := n + c) h1).2, (sh_yes h1 h2 h3).1]
  refine ⟨?_, rfl, rfl⟩
  rw [pat_cut, psh_pat, show max 0 n = n by omega, show max 0 (n + c) = n + c by omega, Rat.intCast_add]

set_option maxRecDepth 100000 in
set_option maxHeartbeats 6400000 in
theorem BinomialVandermonde_walk (A : Option Addr) (ca : Nat) (vs : List Value) (c n : Int) (w : World) (hr : EL w w.heap.size A vs) (hx : vs.length ≤ ca ∧ ca ≤ 9223372036854775807 ∧ ∀ u ∈ vs, ∃ s xs ys, RV w u s xs ys) (hc : (Lit.int .i64 c).wf = true) (hn : (Lit.int .i64 n).wf = true) :
    Calls Try.prog 9 #[.slice A vs.length ca, .int .i64 c, .int .i64 n] w fun e w' => e = .returned (.bool true) ∧ Up w w' := by
  simp [Lit.wf, IntKind.min, IntKind.max, IntKind.bits, IntKind.signed] at hc hn
  obtain ⟨hc1, hc2⟩ := hc
  obtain ⟨hn1, hn2⟩ := hn
  have HK := Lib.hid (few_q hr hx)
  cases hq : ratsB vs 10 with
  | false =>
    rw [hq] at HK
    clear hr hx hq
    go_enter Try.func9, Try.ntmps9
    go_wp2_with fail
    refine HK.out.mono ?_
    rintro e w1 ⟨rfl, U1⟩
    go_wp2_with fail
    go_ret
    exact ⟨rfl, U1⟩
  | true =>
    rw [hq] at HK
    by_cases h1 : c < -1000
    · have t0 : decide (c < -1000) = true := by simpa using h1
      clear hr hx hq
      go_enter Try.func9, Try.ntmps9
      go_wp2_with fail
      refine HK.out.mono ?_
      rintro e w1 ⟨rfl, U1⟩
      go_wp2_with fail
      go_ret
      exact ⟨rfl, U1⟩
    by_cases h2 : 1000 < c
    · have t0 : decide (c < -1000) = false := by simpa using h1
      have t1 : decide (1000 < c) = true := by simpa using h2
      clear hr hx hq
      go_enter Try.func9, Try.ntmps9
      go_wp2_with fail
      refine HK.out.mono ?_
      rintro e w1 ⟨rfl, U1⟩
      go_wp2_with fail
      go_ret
      exact ⟨rfl, U1⟩
    by_cases h3 : n < 0
    · have t0 : decide (c < -1000) = false := by simpa using h1
      have t1 : decide (1000 < c) = false := by simpa using h2
      have t2 : decide (n < 0) = true := by simpa using h3
      clear hr hx hq
      go_enter Try.func9, Try.ntmps9
      go_wp2_with fail
      refine HK.out.mono ?_
      rintro e w1 ⟨rfl, U1⟩
      go_wp2_with fail
      go_ret
      exact ⟨rfl, U1⟩
    by_cases h4 : 1048576 < n
    · have t0 : decide (c < -1000) = false := by simpa using h1
      have t1 : decide (1000 < c) = false := by simpa using h2
      have t2 : decide (n < 0) = false := by simpa using h3
      have t3 : decide (1048576 < n) = true := by simpa using h4
      clear hr hx hq
      go_enter Try.func9, Try.ntmps9
      go_wp2_with fail
      refine HK.out.mono ?_
      rintro e w1 ⟨rfl, U1⟩
      go_wp2_with fail
      go_ret
      exact ⟨rfl, U1⟩
    by_cases h5 : n + c < 0
    · have t0 : decide (c < -1000) = false := by simpa using h1
      have t1 : decide (1000 < c) = false := by simpa using h2
      have t2 : decide (n < 0) = false := by simpa using h3
      have t3 : decide (1048576 < n) = false := by simpa using h4
      have e1 : IntKind.i64.wrap (n + c) = n + c := IntWalk.i64_in _ (by omega)
      have t4 : decide (n + c < 0) = true := by simpa using h5
      clear hr hx hq
      go_enter Try.func9, Try.ntmps9
      go_wp2_with fail
      refine HK.out.mono ?_
      rintro e w1 ⟨rfl, U1⟩
      go_wp2_with fail
      go_ret
      exact ⟨rfl, U1⟩
    · obtain ⟨ps, hl, hln, hR⟩ := rats_small hr hx hq
      rw [← hl] at HK ⊢
      have t0 : decide (c < -1000) = false := by simpa using h1
      have t1 : decide (1000 < c) = false := by simpa using h2
      have t2 : decide (n < 0) = false := by simpa using h3
      have t3 : decide (1048576 < n) = false := by simpa using h4
      have e1 : IntKind.i64.wrap (n + c) = n + c := IntWalk.i64_in _ (by omega)
      have e2 : wrap64 (-c) = -c := by unfold wrap64; omega
      have t4 : decide (n + c < 0) = false := by simpa using h5
      have h9 := hR.qs9
      have HB := shift_back (ps := ps) (c := c) (by omega) (by omega) (by omega)
      have HE := vander_eval (ps := ps) (c := c) (n := n) (by omega) (by omega) (by omega) (by omega) (by omega)
      have hsm := shV_mem h9 (by omega) c
      have hsl := shV_len ps c
      have HP1 := Lib.hid (fun wx (h : RX (some 8) wx A ps) => shift_q (cap := ca) h xb8 (by omega) (by omega) (by omega) c hc1 hc2)
      have HP2 := Lib.hid (fun wx A' ca' (h : RX none wx A' (shV ps c)) => shift_q (cap := ca') (B := 64 * (9 + 388) + 3) h hsm (by omega) (by omega) (by omega) (-c) (by omega) (by omega))
      have HE1 := Lib.hid (fun wx A' ca' (h : RX none wx A' (shV ps c)) => eval_q (cap := ca') (B := 64 * (9 + 388) + 3) h hsm (by omega) (by omega) (by omega) n hn1 hn2)
      have HE2 := Lib.hid (fun wx (h : RX (some 8) wx A ps) => eval_q (cap := ca) h xb8 (by omega) (by omega) (by omega) (n + c) (by omega) (by omega))
      have HC := Lib.hid (fun wx (h : RX (some 8) wx A ps) => bCanonical_q (cap := ca) h xb8 (by omega) (by omega))
      rw [HB.2.2] at HP1
      rw [HB.1, HB.2.1] at HP2
      rw [HE.1, HE.2.1] at HE1
      rw [HE.2.2] at HE2
      have HM := Lib.hid (cutL_mem h9 (by omega))
      have HL := Lib.hid (show (cutL ps).length ≤ 1000 from Nat.le_trans (cutL_len ps) (by omega))
      have HQ := Lib.hid (show qs (evalV ps (n + c)) ≤ 17179869184 from Nat.le_trans (qs_evalV ps 9 h9 (by omega) (n + c) (by omega)) (by omega))
      obtain ⟨q, hq'⟩ : ∃ q, q = evalV ps (n + c) := ⟨_, rfl⟩
      rw [← hq'] at HE1 HE2 HQ
      obtain ⟨l, hl'⟩ : ∃ l, l = shV ps c := ⟨_, rfl⟩
      rw [← hl'] at HP1 HP2 HE1
      clear hq' hr hx hq h9 hl h1 h2 h3 h4 h5 HB HE hsm hsl hl'
      go_enter Try.func9, Try.ntmps9
      have U : Up w w := Up.refl w
      have R0 := Lib.hid hR
      clear hR
      go_wp2_with fail
      refine (HK.out).mono ?_
      rintro e w1 ⟨rfl, u1⟩
      have ux : Up w w1 := u1
      replace U := Up.trans U ux
      replace R0 := Lib.hid (R0.out.up ux)
      clear ux
      go_wp2_with fail
      refine (HP1.out _ R0.out).mono ?_
      rintro e w2 ⟨A2, c2, rfl, h1, h2, h3, u2⟩
      have L2 := Lib.hid h3
      have H2 := Lib.hid (And.intro h1 h2)
      clear h1 h2 h3
      have ux : Up w1 w2 := u2
      replace U := Up.trans U ux
      replace R0 := Lib.hid (R0.out.up ux)
      clear ux
      go_wp2_with fail
      refine (HP2.out _ _ _ L2.out).mono ?_
      rintro e w3 ⟨A3, c3, rfl, h1, h2, h3, u3⟩
      have L3 := Lib.hid h3
      have H3 := Lib.hid (And.intro h1 h2)
      clear h1 h2 h3
      have ux : Up w2 w3 := u3
      replace U := Up.trans U ux
      replace R0 := Lib.hid (R0.out.up ux)
      replace L2 := Lib.hid (L2.out.up ux)
      clear ux
      go_wp2_with fail
      refine (HE1.out _ _ _ L2.out).mono ?_
      rintro e w4 ⟨v4, rfl, hQ4, u4⟩
      obtain ⟨s4, A4, n4, c4, B4, m4, d4, rfl⟩ := hQ4.shape
      have Q4 := Lib.hid hQ4
      clear hQ4
      have ux : Up w3 w4 := u4
      replace U := Up.trans U ux
      replace R0 := Lib.hid (R0.out.up ux)
      replace L2 := Lib.hid (L2.out.up ux)
      replace L3 := Lib.hid (L3.out.up ux)
      clear ux
      go_wp2_with fail
      obtain ⟨w5, hw5⟩ : ∃ wx, wx = (w4.alloc (Obj.cells #[.bool s4, .slice A4 n4 c4, .slice B4 m4 d4] 24)) := ⟨_, rfl⟩
      have hUw5 : Up w4 w5 := by rw [hw5]; exact Below.alloc (Below.refl _ _) (Nat.le_refl _) _
      have bx4 : Blk w5 (w4.heap.size) 24 #[.bool s4, .slice A4 n4 c4, .slice B4 m4 d4] := by rw [hw5]; exact Blk.new' _ _ _ (by simp)
      rw [← hw5]
      clear hw5
      obtain ⟨g4, hg4⟩ : ∃ g, g = w4.heap.size := ⟨_, rfl⟩
      rw [← hg4] at bx4
      try rw [show w4.heap.size = g4 from hg4.symm]
      clear hg4
      have ux : Up w4 w5 := hUw5
      replace U := Up.trans U ux
      replace R0 := Lib.hid (R0.out.up ux)
      replace L2 := Lib.hid (L2.out.up ux)
      replace L3 := Lib.hid (L3.out.up ux)
      replace Q4 := Lib.hid (Q4.out.up ux)
      clear ux
      clear hUw5
      obtain ⟨bx4a, bx4b, bx4c⟩ := tri bx4
      go_wp2_with fail
      refine (HE2.out _ R0.out).mono ?_
      rintro e w6 ⟨v6, rfl, hQ6, u6⟩
      obtain ⟨s6, A6, n6, c6, B6, m6, d6, rfl⟩ := hQ6.shape
      have Q6 := Lib.hid hQ6
      clear hQ6
      have ux : Up w5 w6 := u6
      replace U := Up.trans U ux
      replace R0 := Lib.hid (R0.out.up ux)
      replace L2 := Lib.hid (L2.out.up ux)
      replace L3 := Lib.hid (L3.out.up ux)
      replace Q4 := Lib.hid (Q4.out.up ux)
      replace bx4 := Blk.up bx4 ux
      clear ux
      clear bx4a bx4b bx4c
      obtain ⟨bx4a, bx4b, bx4c⟩ := tri bx4
      have zbx4 := bx4.lt
      go_wp2_with fail
      clear zbx4
      obtain ⟨w7, hw7⟩ : ∃ wx, wx = (w6.alloc (Obj.cells #[.bool s6, .slice A6 n6 c6, .slice B6 m6 d6] 24)) := ⟨_, rfl⟩
      have hUw7 : Up w6 w7 := by rw [hw7]; exact Below.alloc (Below.refl _ _) (Nat.le_refl _) _
      have bx6 : Blk w7 (w6.heap.size) 24 #[.bool s6, .slice A6 n6 c6, .slice B6 m6 d6] := by rw [hw7]; exact Blk.new' _ _ _ (by simp)
      rw [← hw7]
      clear hw7
      obtain ⟨g6, hg6⟩ : ∃ g, g = w6.heap.size := ⟨_, rfl⟩
      rw [← hg6] at bx6
      try rw [show w6.heap.size = g6 from hg6.symm]
      clear hg6
      have ux : Up w6 w7 := hUw7
      replace U := Up.trans U ux
      replace R0 := Lib.hid (R0.out.up ux)
      replace L2 := Lib.hid (L2.out.up ux)
      replace L3 := Lib.hid (L3.out.up ux)
      replace Q4 := Lib.hid (Q4.out.up ux)
      replace Q6 := Lib.hid (Q6.out.up ux)
      replace bx4 := Blk.up bx4 ux
      clear ux
      clear hUw7
      clear bx4a bx4b bx4c
      obtain ⟨bx4a, bx4b, bx4c⟩ := tri bx4
      obtain ⟨bx6a, bx6b, bx6c⟩ := tri bx6
      go_wp2_with fail
      have HS := Lib.hid (sameRat_q Q4.out Q6.out HQ.out HQ.out)
      rw [decide_eq_true rfl] at HS
      refine (HS.out).mono ?_
      rintro e w8 ⟨rfl, u8⟩
      have ux : Up w7 w8 := u8
      replace U := Up.trans U ux
      replace R0 := Lib.hid (R0.out.up ux)
      replace L2 := Lib.hid (L2.out.up ux)
      replace L3 := Lib.hid (L3.out.up ux)
      replace Q4 := Lib.hid (Q4.out.up ux)
      replace Q6 := Lib.hid (Q6.out.up ux)
      replace bx4 := Blk.up bx4 ux
      replace bx6 := Blk.up bx6 ux
      clear ux
      clear bx4a bx4b bx4c bx6a bx6b bx6c
      obtain ⟨bx4a, bx4b, bx4c⟩ := tri bx4
      obtain ⟨bx6a, bx6b, bx6c⟩ := tri bx6
      go_wp2_with fail
      refine (HC.out _ R0.out).mono ?_
      rintro e w9 ⟨g9, rfl, h1, h2, u9⟩
      have L9 := Lib.hid h2.rx
      clear h1 h2
      have ux : Up w8 w9 := u9
      replace U := Up.trans U ux
      replace R0 := Lib.hid (R0.out.up ux)
      replace L2 := Lib.hid (L2.out.up ux)
      replace L3 := Lib.hid (L3.out.up ux)
      replace bx4 := Blk.up bx4 ux
      replace bx6 := Blk.up bx6 ux
      clear ux
      clear bx4a bx4b bx4c bx6a bx6b bx6c
      obtain ⟨bx4a, bx4b, bx4c⟩ := tri bx4
      obtain ⟨bx6a, bx6b, bx6c⟩ := tri bx6
      go_wp2_with fail
      have HS2 := Lib.hid (sameRats_q (cap := c3) (cap' := (cutL ps).length) L3.out L9.out HM.out HM.out (by omega) HL.out HL.out)
      rw [decide_eq_true rfl] at HS2
      refine (HS2.out).mono ?_
      rintro e w10 ⟨rfl, u10⟩
      have ux : Up w9 w10 := u10
      replace U := Up.trans U ux
      replace R0 := Lib.hid (R0.out.up ux)
      replace L2 := Lib.hid (L2.out.up ux)
      replace L3 := Lib.hid (L3.out.up ux)
      replace L9 := Lib.hid (L9.out.up ux)
      replace bx4 := Blk.up bx4 ux
      replace bx6 := Blk.up bx6 ux
      clear ux
      clear bx4a bx4b bx4c bx6a bx6b bx6c
      obtain ⟨bx4a, bx4b, bx4c⟩ := tri bx4
      obtain ⟨bx6a, bx6b, bx6c⟩ := tri bx6
      go_wp2_with fail
      refine (awake02_any _).mono ?_
      rintro e w11 ⟨rfl, u11⟩
      have ux : Up w10 w11 := u11
      replace U := Up.trans U ux
      replace bx4 := Blk.up bx4 ux
      replace bx6 := Blk.up bx6 ux
      clear ux
      clear bx4a bx4b bx4c bx6a bx6b bx6c
      obtain ⟨bx4a, bx4b, bx4c⟩ := tri bx4
      obtain ⟨bx6a, bx6b, bx6c⟩ := tri bx6
      go_wp2_with fail
      go_ret
      exact ⟨rfl, U⟩
end Go.Proofs.Ytiiebgfjdkkdeaa
