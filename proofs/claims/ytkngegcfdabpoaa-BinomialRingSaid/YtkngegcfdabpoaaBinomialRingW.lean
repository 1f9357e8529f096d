/-
  BinomialRing: for every two lists of rational numbers and every integer the law returns true. Conditions: none.
-/
import Derived.Test.YtkngegcfdabpoaaBinomialAddsW
import Derived.Test.YtkngegcfdabpoaaLEval
namespace Go.Proofs.Ytkngegcfdabpoaa
open Go.RowKit

theorem pat_nil (x : Rat) : pat [] x = 0 := rfl
theorem ring_add {ps rs : List Rat} {n : Int} (h1 : ps.length ≤ 10) (h2 : rs.length ≤ 10) (h3 : 0 ≤ n) : evalV (addV ps rs) n = evalV ps n + evalV rs n ∧ evalB (addV ps rs) = true ∧ addB ps rs = true ∧ evalB ps = true ∧ evalB rs = true := by
  have hl := addV_len ps rs
  have ha := add_yes (ps := ps) (rs := rs) ⟨by omega, by omega⟩
  rw [(eval_yes (ps := addV ps rs) (n := n) hl).1, (eval_yes (ps := addV ps rs) (n := n) hl).2, (eval_yes (ps := ps) (n := n) (by omega)).1, (eval_yes (ps := ps) (n := n) (by omega)).2, (eval_yes (ps := rs) (n := n) (by omega)).1, (eval_yes (ps := rs) (n := n) (by omega)).2, ha.1, ha.2, pat_cut, padd_pat]
  exact ⟨rfl, rfl, rfl, rfl, rfl⟩
theorem ring_mul {ps rs : List Rat} {n : Int} (h1 : ps.length ≤ 10) (h2 : rs.length ≤ 10) (h3 : 0 ≤ n) : evalV (mulV ps rs) n = evalV ps n * evalV rs n ∧ evalB (mulV ps rs) = true ∧ mulB ps rs = true := by
  have hl := mulV_len ps rs
  have hl1 := cutL_len ps
  have hl2 := cutL_len rs
  rw [(eval_yes (ps := mulV ps rs) (n := n) hl).1, (eval_yes (ps := mulV ps rs) (n := n) hl).2, (eval_yes (ps := ps) (n := n) (by omega)).1, (eval_yes (ps := rs) (n := n) (by omega)).1]
  refine ⟨?_, rfl, ?_⟩
  · by_cases h0 : (cutL ps).length = 0 ∨ (cutL rs).length = 0
    · rw [(mul_zero' ⟨by omega, by omega⟩ h0).1, pat_nil]
      rcases h0 with h0 | h0
      · rw [← pat_cut ps, List.eq_nil_of_length_eq_zero h0, pat_nil]; grind
      · rw [← pat_cut rs, List.eq_nil_of_length_eq_zero h0, pat_nil]; grind
    · rw [(mul_yes ⟨by omega, by omega⟩ h0 (by omega)).1, pat_cut, pmul_pat, pat_cut, pat_cut]
  · by_cases h0 : (cutL ps).length = 0 ∨ (cutL rs).length = 0
    · exact (mul_zero' ⟨by omega, by omega⟩ h0).2
    · exact (mul_yes ⟨by omega, by omega⟩ h0 (by omega)).2
theorem mulV_mem10 {ps rs : List Rat} (h1 : ∀ q ∈ ps, qs q ≤ 9) (h2 : ∀ q ∈ rs, qs q ≤ 9) (hl1 : ps.length ≤ 10) (hl2 : rs.length ≤ 10) : ∀ q ∈ mulV ps rs, qs q ≤ 79943 := fun q hq => by
  have h := mulV_mem h1 h2 (by omega) q hq
  have e1 : rs.length * (2 * 9 + 781) + 4 ≤ 7994 := by omega
  have e2 : ps.length * (rs.length * (2 * 9 + 781) + 4) ≤ 10 * 7994 := Nat.mul_le_mul hl1 e1
  omega

set_option maxRecDepth 100000 in
set_option maxHeartbeats 6400000 in
theorem BinomialRing_walk (A : Option Addr) (ca : Nat) (vs : List Value) (A2 : Option Addr) (ca2 : Nat) (vs2 : List Value) (n : Int) (w : World) (hr : EL w w.heap.size A vs) (hx : vs.length ≤ ca ∧ ca ≤ 9223372036854775807 ∧ ∀ u ∈ vs, ∃ s xs ys, RV w u s xs ys) (hr2 : EL w w.heap.size A2 vs2) (hx2 : vs2.length ≤ ca2 ∧ ca2 ≤ 9223372036854775807 ∧ ∀ u ∈ vs2, ∃ s xs ys, RV w u s xs ys) (hn : (Lit.int .i64 n).wf = true) :
    Calls Try.prog 8 #[.slice A vs.length ca, .slice A2 vs2.length ca2, .int .i64 n] w fun e w' => e = .returned (.bool true) ∧ Up w w' := by
  simp [Lit.wf, IntKind.min, IntKind.max, IntKind.bits, IntKind.signed] at hn
  obtain ⟨hn1, hn2⟩ := hn
  have HK := Lib.hid (few_q hr hx)
  have HK2 := Lib.hid (fun wx (u : Up w wx) => few_q (A := A2) (ca := ca2) (hr2.up u) ⟨hx2.1, hx2.2.1, fun v hv => by obtain ⟨s, xs, ys, h⟩ := hx2.2.2 v hv; exact ⟨s, xs, ys, RV.up h u⟩⟩)
  cases hq : ratsB vs 10 with
  | false =>
    rw [hq] at HK
    clear hr hx hr2 hx2 hq
    go_enter Try.func8, Try.ntmps8
    go_wp2_with fail
    refine HK.out.mono ?_
    rintro e w1 ⟨rfl, U1⟩
    go_wp2_with fail
    go_ret
    exact ⟨rfl, U1⟩
  | true =>
    rw [hq] at HK
    cases hq2 : ratsB vs2 10 with
    | false =>
      rw [hq2] at HK2
      clear hr hx hr2 hx2 hq hq2
      go_enter Try.func8, Try.ntmps8
      go_wp2_with fail
      refine HK.out.mono ?_
      rintro e w1 ⟨rfl, U1⟩
      go_wp2_with fail
      refine (HK2.out _ U1).mono ?_
      rintro e w2 ⟨rfl, U2⟩
      go_wp2_with fail
      go_ret
      exact ⟨rfl, U1.trans U2⟩
    | true =>
      rw [hq2] at HK2
      obtain ⟨ps, hl, hln, hR⟩ := rats_small hr hx hq
      obtain ⟨rs, hl2, hln2, hR2⟩ := rats_small hr2 hx2 hq2
      rw [← hl] at HK ⊢
      rw [← hl2] at HK2 ⊢
      have h9 := hR.qs9
      have h92 := hR2.qs9
      by_cases h3 : n < 0
      · have t3 : decide (n < 0) = true := by simpa using h3
        clear hr hx hr2 hx2 hq hq2 hR hR2 h9 h92 hl hl2 hln hln2
        go_enter Try.func8, Try.ntmps8
        go_wp2_with fail
        refine HK.out.mono ?_
        rintro e w1 ⟨rfl, U1⟩
        go_wp2_with fail
        refine (HK2.out _ U1).mono ?_
        rintro e w2 ⟨rfl, U2⟩
        go_wp2_with fail
        go_ret
        exact ⟨rfl, U1.trans U2⟩
      have t3 : decide (n < 0) = false := by simpa using h3
      by_cases h4 : 1048576 < n
      · have t4 : decide (1048576 < n) = true := by simpa using h4
        clear hr hx hr2 hx2 hq hq2 hR hR2 h9 h92 hl hl2 hln hln2
        go_enter Try.func8, Try.ntmps8
        go_wp2_with fail
        refine HK.out.mono ?_
        rintro e w1 ⟨rfl, U1⟩
        go_wp2_with fail
        refine (HK2.out _ U1).mono ?_
        rintro e w2 ⟨rfl, U2⟩
        go_wp2_with fail
        go_ret
        exact ⟨rfl, U1.trans U2⟩
      have t4 : decide (1048576 < n) = false := by simpa using h4
      have HP1 := Lib.hid (fun wx (h : RX (some 8) wx A ps) (h' : RX (some 8) wx A2 rs) => addL_q (c1 := ca) (c2 := ca2) h h' xb8 xb8 (by omega) (by omega) (by omega) (by omega))
      have HP3 := Lib.hid (fun wx (h : RX (some 8) wx A ps) (h' : RX (some 8) wx A2 rs) => mulL_q (c1 := ca) (c2 := ca2) h h' xb8 xb8 (by omega) (by omega) (by omega) (by omega))
      have hal := addV_len ps rs
      have hml := mulV_len ps rs
      have HE1 := Lib.hid (fun wx (h : RX (some 8) wx A ps) => eval_q (cap := ca) h xb8 (by omega) (by omega) (by omega) n hn1 hn2)
      have HE2 := Lib.hid (fun wx (h : RX (some 8) wx A2 rs) => eval_q (cap := ca2) h xb8 (by omega) (by omega) (by omega) n hn1 hn2)
      have HE3 := Lib.hid (fun wx A' ca' (h : RX none wx A' (addV ps rs)) => eval_q (cap := ca') (B := 2 * 9 + 1) h (addV_mem h9 h92 (by omega)) (by omega) (by omega) (by omega) n hn1 hn2)
      have HE4 := Lib.hid (fun wx A' ca' (h : RX none wx A' (mulV ps rs)) => eval_q (cap := ca') (B := 79943) h (mulV_mem10 h9 h92 hln hln2) (by omega) (by omega) (by omega) n hn1 hn2)
      have HRA := ring_add (ps := ps) (rs := rs) (n := n) hln hln2 (by omega)
      have HRM := ring_mul (ps := ps) (rs := rs) (n := n) hln hln2 (by omega)
      rw [HRA.2.2.1] at HP1
      rw [HRM.2.2] at HP3
      rw [HRA.2.2.2.1] at HE1
      rw [HRA.2.2.2.2] at HE2
      rw [HRA.1, HRA.2.1] at HE3
      rw [HRM.1, HRM.2.1] at HE4
      have SX := Lib.hid (qs_evalV ps 9 h9 (by omega) n hn2)
      have SY := Lib.hid (qs_evalV rs 9 h92 (by omega) n hn2)
      have SU := Lib.hid (show qs (evalV ps n + evalV rs n) ≤ 17179869184 from Nat.le_trans (qs_add _ _) (by have := SX.out; have := SY.out; omega))
      have SV := Lib.hid (show qs (evalV ps n * evalV rs n) ≤ 17179869184 from Nat.le_trans (qs_mul _ _) (by have := SX.out; have := SY.out; omega))
      obtain ⟨x, hx'⟩ : ∃ x, x = evalV ps n := ⟨_, rfl⟩
      obtain ⟨y, hy'⟩ : ∃ x, x = evalV rs n := ⟨_, rfl⟩
      rw [← hx'] at HE1 HE3 HE4 SX SU SV
      rw [← hy'] at HE2 HE3 HE4 SY SU SV
      obtain ⟨l, hl'⟩ : ∃ l, l = addV ps rs := ⟨_, rfl⟩
      obtain ⟨l2, hl2'⟩ : ∃ l, l = mulV ps rs := ⟨_, rfl⟩
      rw [← hl'] at HP1 HE3
      rw [← hl2'] at HP3 HE4
      clear hx' hy' hl' hl2' hr hx hr2 hx2 hq hq2 h9 h92 hl hl2 HRA HRM hal hml h3 h4
      go_enter Try.func8, Try.ntmps8
      have U : Up w w := Up.refl w
      have R0 := Lib.hid hR
      have R1 := Lib.hid hR2
      clear hR hR2
      go_wp2_with fail
      refine (HK.out).mono ?_
      rintro e w1 ⟨rfl, u1⟩
      have ux : Up w w1 := u1
      replace U := Up.trans U ux
      replace R0 := Lib.hid (R0.out.up ux)
      replace R1 := Lib.hid (R1.out.up ux)
      clear ux
      go_wp2_with fail
      refine (HK2.out _ U).mono ?_
      rintro e w2 ⟨rfl, u2⟩
      have ux : Up w1 w2 := u2
      replace U := Up.trans U ux
      replace R0 := Lib.hid (R0.out.up ux)
      replace R1 := Lib.hid (R1.out.up ux)
      clear ux
      go_wp2_with fail
      refine (HE1.out _ R0.out).mono ?_
      rintro e w3 ⟨v3, rfl, hQ3, u3⟩
      obtain ⟨s3, A3, n3, c3, B3, m3, d3, rfl⟩ := hQ3.shape
      have Q3 := Lib.hid hQ3
      clear hQ3
      have ux : Up w2 w3 := u3
      replace U := Up.trans U ux
      replace R0 := Lib.hid (R0.out.up ux)
      replace R1 := Lib.hid (R1.out.up ux)
      clear ux
      go_wp2_with fail
      obtain ⟨w4, hw4⟩ : ∃ wx, wx = (w3.alloc (Obj.cells #[.bool s3, .slice A3 n3 c3, .slice B3 m3 d3] 31)) := ⟨_, rfl⟩
      have hUw4 : Up w3 w4 := by rw [hw4]; exact Below.alloc (Below.refl _ _) (Nat.le_refl _) _
      have bx3 : Blk w4 (w3.heap.size) 31 #[.bool s3, .slice A3 n3 c3, .slice B3 m3 d3] := by rw [hw4]; exact Blk.new' _ _ _ (by simp)
      rw [← hw4]
      clear hw4
      obtain ⟨g3, hg3⟩ : ∃ g, g = w3.heap.size := ⟨_, rfl⟩
      rw [← hg3] at bx3
      try rw [show w3.heap.size = g3 from hg3.symm]
      clear hg3
      have ux : Up w3 w4 := hUw4
      replace U := Up.trans U ux
      replace R0 := Lib.hid (R0.out.up ux)
      replace R1 := Lib.hid (R1.out.up ux)
      replace Q3 := Lib.hid (Q3.out.up ux)
      clear ux
      clear hUw4
      obtain ⟨bx3a, bx3b, bx3c⟩ := tri bx3
      go_wp2_with fail
      refine (HE2.out _ R1.out).mono ?_
      rintro e w5 ⟨v5, rfl, hQ5, u5⟩
      obtain ⟨s5, A5, n5, c5, B5, m5, d5, rfl⟩ := hQ5.shape
      have Q5 := Lib.hid hQ5
      clear hQ5
      have ux : Up w4 w5 := u5
      replace U := Up.trans U ux
      replace R0 := Lib.hid (R0.out.up ux)
      replace R1 := Lib.hid (R1.out.up ux)
      replace Q3 := Lib.hid (Q3.out.up ux)
      replace bx3 := Blk.up bx3 ux
      clear ux
      clear bx3a bx3b bx3c
      obtain ⟨bx3a, bx3b, bx3c⟩ := tri bx3
      have zbx3 := bx3.lt
      go_wp2_with fail
      clear zbx3
      obtain ⟨w6, hw6⟩ : ∃ wx, wx = (w5.alloc (Obj.cells #[.bool s5, .slice A5 n5 c5, .slice B5 m5 d5] 31)) := ⟨_, rfl⟩
      have hUw6 : Up w5 w6 := by rw [hw6]; exact Below.alloc (Below.refl _ _) (Nat.le_refl _) _
      have bx5 : Blk w6 (w5.heap.size) 31 #[.bool s5, .slice A5 n5 c5, .slice B5 m5 d5] := by rw [hw6]; exact Blk.new' _ _ _ (by simp)
      rw [← hw6]
      clear hw6
      obtain ⟨g5, hg5⟩ : ∃ g, g = w5.heap.size := ⟨_, rfl⟩
      rw [← hg5] at bx5
      try rw [show w5.heap.size = g5 from hg5.symm]
      clear hg5
      have ux : Up w5 w6 := hUw6
      replace U := Up.trans U ux
      replace R0 := Lib.hid (R0.out.up ux)
      replace R1 := Lib.hid (R1.out.up ux)
      replace Q3 := Lib.hid (Q3.out.up ux)
      replace Q5 := Lib.hid (Q5.out.up ux)
      replace bx3 := Blk.up bx3 ux
      clear ux
      clear hUw6
      clear bx3a bx3b bx3c
      obtain ⟨bx3a, bx3b, bx3c⟩ := tri bx3
      obtain ⟨bx5a, bx5b, bx5c⟩ := tri bx5
      go_wp2_with fail
      refine (HP1.out _ R0.out R1.out).mono ?_
      rintro e w7 ⟨A7, c7, rfl, h1, h2, h3, u7⟩
      have L7 := Lib.hid h3
      have H7 := Lib.hid (And.intro h1 h2)
      clear h1 h2 h3
      have ux : Up w6 w7 := u7
      replace U := Up.trans U ux
      replace R0 := Lib.hid (R0.out.up ux)
      replace R1 := Lib.hid (R1.out.up ux)
      replace Q3 := Lib.hid (Q3.out.up ux)
      replace Q5 := Lib.hid (Q5.out.up ux)
      replace bx3 := Blk.up bx3 ux
      replace bx5 := Blk.up bx5 ux
      clear ux
      clear bx3a bx3b bx3c bx5a bx5b bx5c
      obtain ⟨bx3a, bx3b, bx3c⟩ := tri bx3
      obtain ⟨bx5a, bx5b, bx5c⟩ := tri bx5
      go_wp2_with fail
      refine (HP3.out _ R0.out R1.out).mono ?_
      rintro e w8 ⟨A8, c8, rfl, h1, h2, h3, u8⟩
      have L8 := Lib.hid h3
      have H8 := Lib.hid (And.intro h1 h2)
      clear h1 h2 h3
      have ux : Up w7 w8 := u8
      replace U := Up.trans U ux
      replace R0 := Lib.hid (R0.out.up ux)
      replace R1 := Lib.hid (R1.out.up ux)
      replace Q3 := Lib.hid (Q3.out.up ux)
      replace Q5 := Lib.hid (Q5.out.up ux)
      replace L7 := Lib.hid (L7.out.up ux)
      replace bx3 := Blk.up bx3 ux
      replace bx5 := Blk.up bx5 ux
      clear ux
      clear bx3a bx3b bx3c bx5a bx5b bx5c
      obtain ⟨bx3a, bx3b, bx3c⟩ := tri bx3
      obtain ⟨bx5a, bx5b, bx5c⟩ := tri bx5
      go_wp2_with fail
      refine (HE3.out _ _ _ L7.out).mono ?_
      rintro e w9 ⟨v9, rfl, hQ9, u9⟩
      obtain ⟨s9, A9, n9, c9, B9, m9, d9, rfl⟩ := hQ9.shape
      have Q9 := Lib.hid hQ9
      clear hQ9
      have ux : Up w8 w9 := u9
      replace U := Up.trans U ux
      replace Q3 := Lib.hid (Q3.out.up ux)
      replace Q5 := Lib.hid (Q5.out.up ux)
      replace L7 := Lib.hid (L7.out.up ux)
      replace L8 := Lib.hid (L8.out.up ux)
      replace bx3 := Blk.up bx3 ux
      replace bx5 := Blk.up bx5 ux
      clear ux
      clear bx3a bx3b bx3c bx5a bx5b bx5c
      obtain ⟨bx3a, bx3b, bx3c⟩ := tri bx3
      obtain ⟨bx5a, bx5b, bx5c⟩ := tri bx5
      have zbx3 := bx3.lt
      have zbx5 := bx5.lt
      go_wp2_with fail
      clear zbx3 zbx5
      obtain ⟨w10, hw10⟩ : ∃ wx, wx = (w9.alloc (Obj.cells #[.bool s9, .slice A9 n9 c9, .slice B9 m9 d9] 31)) := ⟨_, rfl⟩
      have hUw10 : Up w9 w10 := by rw [hw10]; exact Below.alloc (Below.refl _ _) (Nat.le_refl _) _
      have bx9 : Blk w10 (w9.heap.size) 31 #[.bool s9, .slice A9 n9 c9, .slice B9 m9 d9] := by rw [hw10]; exact Blk.new' _ _ _ (by simp)
      rw [← hw10]
      clear hw10
      obtain ⟨g9, hg9⟩ : ∃ g, g = w9.heap.size := ⟨_, rfl⟩
      rw [← hg9] at bx9
      try rw [show w9.heap.size = g9 from hg9.symm]
      clear hg9
      have ux : Up w9 w10 := hUw10
      replace U := Up.trans U ux
      replace Q3 := Lib.hid (Q3.out.up ux)
      replace Q5 := Lib.hid (Q5.out.up ux)
      replace L8 := Lib.hid (L8.out.up ux)
      replace Q9 := Lib.hid (Q9.out.up ux)
      replace bx3 := Blk.up bx3 ux
      replace bx5 := Blk.up bx5 ux
      clear ux
      clear hUw10
      clear bx3a bx3b bx3c bx5a bx5b bx5c
      obtain ⟨bx3a, bx3b, bx3c⟩ := tri bx3
      obtain ⟨bx5a, bx5b, bx5c⟩ := tri bx5
      obtain ⟨bx9a, bx9b, bx9c⟩ := tri bx9
      go_wp2_with fail
      refine (HE4.out _ _ _ L8.out).mono ?_
      rintro e w11 ⟨v11, rfl, hQ11, u11⟩
      obtain ⟨s11, A11, n11, c11, B11, m11, d11, rfl⟩ := hQ11.shape
      have Q11 := Lib.hid hQ11
      clear hQ11
      have ux : Up w10 w11 := u11
      replace U := Up.trans U ux
      replace Q3 := Lib.hid (Q3.out.up ux)
      replace Q5 := Lib.hid (Q5.out.up ux)
      replace L8 := Lib.hid (L8.out.up ux)
      replace Q9 := Lib.hid (Q9.out.up ux)
      replace bx3 := Blk.up bx3 ux
      replace bx5 := Blk.up bx5 ux
      replace bx9 := Blk.up bx9 ux
      clear ux
      clear bx3a bx3b bx3c bx5a bx5b bx5c bx9a bx9b bx9c
      obtain ⟨bx3a, bx3b, bx3c⟩ := tri bx3
      obtain ⟨bx5a, bx5b, bx5c⟩ := tri bx5
      obtain ⟨bx9a, bx9b, bx9c⟩ := tri bx9
      have zbx3 := bx3.lt
      have zbx5 := bx5.lt
      have zbx9 := bx9.lt
      go_wp2_with fail
      clear zbx3 zbx5 zbx9
      obtain ⟨w12, hw12⟩ : ∃ wx, wx = (w11.alloc (Obj.cells #[.bool s11, .slice A11 n11 c11, .slice B11 m11 d11] 31)) := ⟨_, rfl⟩
      have hUw12 : Up w11 w12 := by rw [hw12]; exact Below.alloc (Below.refl _ _) (Nat.le_refl _) _
      have bx11 : Blk w12 (w11.heap.size) 31 #[.bool s11, .slice A11 n11 c11, .slice B11 m11 d11] := by rw [hw12]; exact Blk.new' _ _ _ (by simp)
      rw [← hw12]
      clear hw12
      obtain ⟨g11, hg11⟩ : ∃ g, g = w11.heap.size := ⟨_, rfl⟩
      rw [← hg11] at bx11
      try rw [show w11.heap.size = g11 from hg11.symm]
      clear hg11
      have ux : Up w11 w12 := hUw12
      replace U := Up.trans U ux
      replace Q3 := Lib.hid (Q3.out.up ux)
      replace Q5 := Lib.hid (Q5.out.up ux)
      replace Q9 := Lib.hid (Q9.out.up ux)
      replace Q11 := Lib.hid (Q11.out.up ux)
      replace bx3 := Blk.up bx3 ux
      replace bx5 := Blk.up bx5 ux
      replace bx9 := Blk.up bx9 ux
      clear ux
      clear hUw12
      clear bx3a bx3b bx3c bx5a bx5b bx5c bx9a bx9b bx9c
      obtain ⟨bx3a, bx3b, bx3c⟩ := tri bx3
      obtain ⟨bx5a, bx5b, bx5c⟩ := tri bx5
      obtain ⟨bx9a, bx9b, bx9c⟩ := tri bx9
      obtain ⟨bx11a, bx11b, bx11c⟩ := tri bx11
      have HE : Hid (∀ W : World, Up w12 W → (W.cell? ⟨g3, 0, none⟩ = some (.bool s3) ∧ W.cell? ⟨g3, 1, none⟩ = some (.slice A3 n3 c3) ∧ W.cell? ⟨g3, 2, none⟩ = some (.slice B3 m3 d3)) ∧ (W.cell? ⟨g5, 0, none⟩ = some (.bool s5) ∧ W.cell? ⟨g5, 1, none⟩ = some (.slice A5 n5 c5) ∧ W.cell? ⟨g5, 2, none⟩ = some (.slice B5 m5 d5)) ∧ (W.cell? ⟨g9, 0, none⟩ = some (.bool s9) ∧ W.cell? ⟨g9, 1, none⟩ = some (.slice A9 n9 c9) ∧ W.cell? ⟨g9, 2, none⟩ = some (.slice B9 m9 d9)) ∧ (W.cell? ⟨g11, 0, none⟩ = some (.bool s11) ∧ W.cell? ⟨g11, 1, none⟩ = some (.slice A11 n11 c11) ∧ W.cell? ⟨g11, 2, none⟩ = some (.slice B11 m11 d11))) := Lib.hid fun W hW => And.intro (tri (bx3.up hW)) (And.intro (tri (bx5.up hW)) (And.intro (tri (bx9.up hW)) (tri (bx11.up hW))))
      go_wp2_with fail
      refine wp_region_noPanic ?_
      refine wp_region_sched (S := (fun wx => (wx.cell? ⟨g3, 0, none⟩ = some (.bool s3) ∧ wx.cell? ⟨g3, 1, none⟩ = some (.slice A3 n3 c3) ∧ wx.cell? ⟨g3, 2, none⟩ = some (.slice B3 m3 d3)) ∧ (wx.cell? ⟨g5, 0, none⟩ = some (.bool s5) ∧ wx.cell? ⟨g5, 1, none⟩ = some (.slice A5 n5 c5) ∧ wx.cell? ⟨g5, 2, none⟩ = some (.slice B5 m5 d5)) ∧ (wx.cell? ⟨g9, 0, none⟩ = some (.bool s9) ∧ wx.cell? ⟨g9, 1, none⟩ = some (.slice A9 n9 c9) ∧ wx.cell? ⟨g9, 2, none⟩ = some (.slice B9 m9 d9)) ∧ (wx.cell? ⟨g11, 0, none⟩ = some (.bool s11) ∧ wx.cell? ⟨g11, 1, none⟩ = some (.slice A11 n11 c11) ∧ wx.cell? ⟨g11, 2, none⟩ = some (.slice B11 m11 d11)))) [(0, false), (1, false), (2, false), (3, false), (4, false), (5, false), (6, false), (7, false), (8, false), (9, false), (10, false), (11, false), (12, false), (13, false), (14, false), (15, false), (16, false), (17, false), (18, false), (19, false), (20, true), (21, true), (22, false), (23, false), (24, false), (25, false), (26, false), (27, true), (28, true), (29, false), (30, false), (31, true), (32, false), (33, false)] (by kernel_rfl) (by as_aux_lemma => kernel_rfl) (by as_aux_lemma => kernel_rfl) (by as_aux_lemma => kernel_rfl) (fun _ _ _ _ _ h => h) (HE.out _ (Up.refl w12).drew) ?_
      intro O1 HO1
      refine wpSched_take (i := 0) (v := ?v1x1) (by as_aux_lemma => rw [HO1.out]; simp only [List.getElem?_toArray, List.getElem?_cons_zero]; rfl) (Or.inl ⟨(by rfl), ?y1x1⟩) ?r1x1
      case y1x1 => as_aux_lemma => intro wx hSx; (try dsimp only at hSx); go_simp; try with_reducible rfl
      try simp only [Act.put, List.setIfInBounds_toArray, List.set_cons_zero, List.set_cons_succ]
      refine wpSched_take (i := 1) (v := ?v1x2) (by as_aux_lemma => rw [HO1.out]; simp only [List.getElem?_toArray, List.getElem?_cons_succ, List.getElem?_cons_zero]; rfl) (Or.inl ⟨(by rfl), ?y1x2⟩) ?r1x2
      case y1x2 => as_aux_lemma => intro wx hSx; (try dsimp only at hSx); go_simp; try with_reducible rfl
      try simp only [Act.put, List.setIfInBounds_toArray, List.set_cons_zero, List.set_cons_succ]
      refine wpSched_take (i := 2) (v := ?v1x3) (by as_aux_lemma => rw [HO1.out]; simp only [List.getElem?_toArray, List.getElem?_cons_succ, List.getElem?_cons_zero]; rfl) (Or.inl ⟨(by as_aux_lemma => rw [HO1.out]; rfl), ?y1x3⟩) ?r1x3
      case y1x3 => as_aux_lemma => intro wx hSx; (try dsimp only at hSx); go_simp; try with_reducible rfl
      try simp only [Act.put, List.setIfInBounds_toArray, List.set_cons_zero, List.set_cons_succ]
      refine wpSched_take (i := 3) (v := ?v1x4) (by as_aux_lemma => rw [HO1.out]; simp only [List.getElem?_toArray, List.getElem?_cons_succ, List.getElem?_cons_zero]; rfl) (Or.inl ⟨(by rfl), ?y1x4⟩) ?r1x4
      case y1x4 => as_aux_lemma => intro wx hSx; (try dsimp only at hSx); go_simp; try with_reducible rfl
      try simp only [Act.put, List.setIfInBounds_toArray, List.set_cons_zero, List.set_cons_succ]
      refine wpSched_take (i := 4) (v := ?v1x5) (by as_aux_lemma => rw [HO1.out]; simp only [List.getElem?_toArray, List.getElem?_cons_succ, List.getElem?_cons_zero]; rfl) (Or.inl ⟨(by rfl), ?y1x5⟩) ?r1x5
      case y1x5 => as_aux_lemma => intro wx hSx; (try dsimp only at hSx); go_simp; try with_reducible rfl
      try simp only [Act.put, List.setIfInBounds_toArray, List.set_cons_zero, List.set_cons_succ]
      refine wpSched_take (i := 5) (v := ?v1x6) (by as_aux_lemma => rw [HO1.out]; simp only [List.getElem?_toArray, List.getElem?_cons_succ, List.getElem?_cons_zero]; rfl) (Or.inl ⟨(by as_aux_lemma => rw [HO1.out]; rfl), ?y1x6⟩) ?r1x6
      case y1x6 => as_aux_lemma => intro wx hSx; (try dsimp only at hSx); go_simp; try with_reducible rfl
      try simp only [Act.put, List.setIfInBounds_toArray, List.set_cons_zero, List.set_cons_succ]
      refine wpSched_take (i := 6) (v := ?v1x7) (by as_aux_lemma => rw [HO1.out]; simp only [List.getElem?_toArray, List.getElem?_cons_succ, List.getElem?_cons_zero]; rfl) (Or.inl ⟨(by rfl), ?y1x7⟩) ?r1x7
      case y1x7 => as_aux_lemma => intro wx hSx; (try dsimp only at hSx); go_simp; try with_reducible rfl
      try simp only [Act.put, List.setIfInBounds_toArray, List.set_cons_zero, List.set_cons_succ]
      refine wpSched_take (i := 7) (v := ?v1x8) (by as_aux_lemma => rw [HO1.out]; simp only [List.getElem?_toArray, List.getElem?_cons_succ, List.getElem?_cons_zero]; rfl) (Or.inl ⟨(by rfl), ?y1x8⟩) ?r1x8
      case y1x8 => as_aux_lemma => intro wx hSx; (try dsimp only at hSx); go_simp; try with_reducible rfl
      try simp only [Act.put, List.setIfInBounds_toArray, List.set_cons_zero, List.set_cons_succ]
      refine wpSched_take (i := 8) (v := ?v1x9) (by as_aux_lemma => rw [HO1.out]; simp only [List.getElem?_toArray, List.getElem?_cons_succ, List.getElem?_cons_zero]; rfl) (Or.inl ⟨(by as_aux_lemma => rw [HO1.out]; rfl), ?y1x9⟩) ?r1x9
      case y1x9 => as_aux_lemma => intro wx hSx; (try dsimp only at hSx); go_simp; try with_reducible rfl
      try simp only [Act.put, List.setIfInBounds_toArray, List.set_cons_zero, List.set_cons_succ]
      refine wpSched_take (i := 9) (v := ?v1x10) (by as_aux_lemma => rw [HO1.out]; simp only [List.getElem?_toArray, List.getElem?_cons_succ, List.getElem?_cons_zero]; rfl) (Or.inl ⟨(by rfl), ?y1x10⟩) ?r1x10
      case y1x10 => as_aux_lemma => intro wx hSx; (try dsimp only at hSx); go_simp; try with_reducible rfl
      try simp only [Act.put, List.setIfInBounds_toArray, List.set_cons_zero, List.set_cons_succ]
      refine wpSched_take (i := 10) (v := ?v1x11) (by as_aux_lemma => rw [HO1.out]; simp only [List.getElem?_toArray, List.getElem?_cons_succ, List.getElem?_cons_zero]; rfl) (Or.inl ⟨(by rfl), ?y1x11⟩) ?r1x11
      case y1x11 => as_aux_lemma => intro wx hSx; (try dsimp only at hSx); go_simp; try with_reducible rfl
      try simp only [Act.put, List.setIfInBounds_toArray, List.set_cons_zero, List.set_cons_succ]
      refine wpSched_take (i := 11) (v := ?v1x12) (by as_aux_lemma => rw [HO1.out]; simp only [List.getElem?_toArray, List.getElem?_cons_succ, List.getElem?_cons_zero]; rfl) (Or.inl ⟨(by as_aux_lemma => rw [HO1.out]; rfl), ?y1x12⟩) ?r1x12
      case y1x12 => as_aux_lemma => intro wx hSx; (try dsimp only at hSx); go_simp; try with_reducible rfl
      try simp only [Act.put, List.setIfInBounds_toArray, List.set_cons_zero, List.set_cons_succ]
      refine wpSched_take (i := 12) (v := ?v1x13) (by as_aux_lemma => rw [HO1.out]; simp only [List.getElem?_toArray, List.getElem?_cons_succ, List.getElem?_cons_zero]; rfl) (Or.inl ⟨(by rfl), ?y1x13⟩) ?r1x13
      case y1x13 => as_aux_lemma => intro wx hSx; (try dsimp only at hSx); go_simp; try with_reducible rfl
      try simp only [Act.put, List.setIfInBounds_toArray, List.set_cons_zero, List.set_cons_succ]
      refine wpSched_take (i := 13) (v := ?v1x14) (by as_aux_lemma => rw [HO1.out]; simp only [List.getElem?_toArray, List.getElem?_cons_succ, List.getElem?_cons_zero]; rfl) (Or.inl ⟨(by rfl), ?y1x14⟩) ?r1x14
      case y1x14 => as_aux_lemma => intro wx hSx; (try dsimp only at hSx); go_simp; try with_reducible rfl
      try simp only [Act.put, List.setIfInBounds_toArray, List.set_cons_zero, List.set_cons_succ]
      refine wpSched_take (i := 14) (v := ?v1x15) (by as_aux_lemma => rw [HO1.out]; simp only [List.getElem?_toArray, List.getElem?_cons_succ, List.getElem?_cons_zero]; rfl) (Or.inl ⟨(by as_aux_lemma => rw [HO1.out]; rfl), ?y1x15⟩) ?r1x15
      case y1x15 => as_aux_lemma => intro wx hSx; (try dsimp only at hSx); go_simp; try with_reducible rfl
      try simp only [Act.put, List.setIfInBounds_toArray, List.set_cons_zero, List.set_cons_succ]
      refine wpSched_take (i := 15) (v := ?v1x16) (by as_aux_lemma => rw [HO1.out]; simp only [List.getElem?_toArray, List.getElem?_cons_succ, List.getElem?_cons_zero]; rfl) (Or.inl ⟨(by rfl), ?y1x16⟩) ?r1x16
      case y1x16 => as_aux_lemma => intro wx hSx; (try dsimp only at hSx); go_simp; try with_reducible rfl
      try simp only [Act.put, List.setIfInBounds_toArray, List.set_cons_zero, List.set_cons_succ]
      refine wpSched_take (i := 16) (v := ?v1x17) (by as_aux_lemma => rw [HO1.out]; simp only [List.getElem?_toArray, List.getElem?_cons_succ, List.getElem?_cons_zero]; rfl) (Or.inl ⟨(by rfl), ?y1x17⟩) ?r1x17
      case y1x17 => as_aux_lemma => intro wx hSx; (try dsimp only at hSx); go_simp; try with_reducible rfl
      try simp only [Act.put, List.setIfInBounds_toArray, List.set_cons_zero, List.set_cons_succ]
      refine wpSched_take (i := 17) (v := ?v1x18) (by as_aux_lemma => rw [HO1.out]; simp only [List.getElem?_toArray, List.getElem?_cons_succ, List.getElem?_cons_zero]; rfl) (Or.inl ⟨(by as_aux_lemma => rw [HO1.out]; rfl), ?y1x18⟩) ?r1x18
      case y1x18 => as_aux_lemma => intro wx hSx; (try dsimp only at hSx); go_simp; try with_reducible rfl
      try simp only [Act.put, List.setIfInBounds_toArray, List.set_cons_zero, List.set_cons_succ]
      refine wpSched_take (i := 18) (v := ?v1x19) (by as_aux_lemma => rw [HO1.out]; simp only [List.getElem?_toArray, List.getElem?_cons_succ, List.getElem?_cons_zero]; rfl) (Or.inl ⟨(by as_aux_lemma => rw [HO1.out]; rfl), ?y1x19⟩) ?r1x19
      case y1x19 => as_aux_lemma => intro wx hSx; (try dsimp only at hSx); go_simp; try with_reducible rfl
      try simp only [Act.put, List.setIfInBounds_toArray, List.set_cons_zero, List.set_cons_succ]
      refine wpSched_take (i := 19) (v := ?v1x20) (by as_aux_lemma => rw [HO1.out]; simp only [List.getElem?_toArray, List.getElem?_cons_succ, List.getElem?_cons_zero]; rfl) (Or.inl ⟨(by as_aux_lemma => rw [HO1.out]; rfl), ?y1x20⟩) ?r1x20
      case y1x20 => as_aux_lemma => intro wx hSx; (try dsimp only at hSx); go_simp; try with_reducible rfl
      try simp only [Act.put, List.setIfInBounds_toArray, List.set_cons_zero, List.set_cons_succ]
      refine wpSched_call (i := 20) (by as_aux_lemma => rw [HO1.out]; simp only [List.getElem?_toArray, List.getElem?_cons_succ, List.getElem?_cons_zero]; rfl) (by as_aux_lemma => rw [HO1.out]; rfl) (fun K' hK => ?_)
      go_simp
      refine (rAdd_q ((Q3.out.up (Up.refl w12).drew).iv SX.out) ((Q5.out.up (Up.refl w12).drew).iv SY.out) (by omega)).mono ?_
      rintro e w13 ⟨v13, rfl, hQ13, U13⟩
      obtain ⟨s13, A13, n13, c13, B13, m13, d13, rfl⟩ := hQ13.shape
      have HQ13 := Lib.hid hQ13
      have V13 : Up w12 w13 := Up.trans (Up.refl w12).drew U13
      have kk13 := HE.out _ V13
      clear hQ13
      go_wp2_with fail
      refine hK.out _ _ kk13 (fun _ => ?_)
      clear hK K'
      try simp only [Act.put, List.setIfInBounds_toArray, List.set_cons_zero, List.set_cons_succ]
      refine wpSched_call (i := 21) (by as_aux_lemma => rw [HO1.out]; simp only [List.getElem?_toArray, List.getElem?_cons_succ, List.getElem?_cons_zero]; rfl) (by as_aux_lemma => rw [HO1.out]; rfl) (fun K' hK => ?_)
      go_simp
      have HS14 := Lib.hid (sameRat_q (Q9.out.up V13) HQ13.out SU.out SU.out)
      rw [decide_eq_true rfl] at HS14
      refine HS14.out.mono ?_
      rintro e w14 ⟨rfl, u14⟩
      have V14 := V13.trans u14
      have kk14 := HE.out _ V14
      go_wp2_with fail
      refine hK.out _ _ kk14 (fun _ => ?_)
      clear hK K'
      try simp only [Act.put, List.setIfInBounds_toArray, List.set_cons_zero, List.set_cons_succ]
      refine wpSched_take (i := 22) (v := ?v1x21) (by as_aux_lemma => rw [HO1.out]; simp only [List.getElem?_toArray, List.getElem?_cons_succ, List.getElem?_cons_zero]; rfl) (Or.inl ⟨(by rfl), ?y1x21⟩) ?r1x21
      case y1x21 => as_aux_lemma => intro wx hSx; (try dsimp only at hSx); go_simp; try with_reducible rfl
      try simp only [Act.put, List.setIfInBounds_toArray, List.set_cons_zero, List.set_cons_succ]
      refine wpSched_take (i := 23) (v := ?v1x22) (by as_aux_lemma => rw [HO1.out]; simp only [List.getElem?_toArray, List.getElem?_cons_succ, List.getElem?_cons_zero]; rfl) (Or.inl ⟨(by rfl), ?y1x22⟩) ?r1x22
      case y1x22 => as_aux_lemma => intro wx hSx; (try dsimp only at hSx); go_simp; try with_reducible rfl
      try simp only [Act.put, List.setIfInBounds_toArray, List.set_cons_zero, List.set_cons_succ]
      refine wpSched_take (i := 24) (v := ?v1x23) (by as_aux_lemma => rw [HO1.out]; simp only [List.getElem?_toArray, List.getElem?_cons_succ, List.getElem?_cons_zero]; rfl) (Or.inl ⟨(by as_aux_lemma => rw [HO1.out]; rfl), ?y1x23⟩) ?r1x23
      case y1x23 => as_aux_lemma => intro wx hSx; (try dsimp only at hSx); go_simp; try with_reducible rfl
      try simp only [Act.put, List.setIfInBounds_toArray, List.set_cons_zero, List.set_cons_succ]
      refine wpSched_take (i := 25) (v := ?v1x24) (by as_aux_lemma => rw [HO1.out]; simp only [List.getElem?_toArray, List.getElem?_cons_succ, List.getElem?_cons_zero]; rfl) (Or.inl ⟨(by as_aux_lemma => rw [HO1.out]; rfl), ?y1x24⟩) ?r1x24
      case y1x24 => as_aux_lemma => intro wx hSx; (try dsimp only at hSx); go_simp; try with_reducible rfl
      try simp only [Act.put, List.setIfInBounds_toArray, List.set_cons_zero, List.set_cons_succ]
      refine wpSched_take (i := 26) (v := ?v1x25) (by as_aux_lemma => rw [HO1.out]; simp only [List.getElem?_toArray, List.getElem?_cons_succ, List.getElem?_cons_zero]; rfl) (Or.inl ⟨(by as_aux_lemma => rw [HO1.out]; rfl), ?y1x25⟩) ?r1x25
      case y1x25 => as_aux_lemma => intro wx hSx; (try dsimp only at hSx); go_simp; try with_reducible rfl
      try simp only [Act.put, List.setIfInBounds_toArray, List.set_cons_zero, List.set_cons_succ]
      refine wpSched_call (i := 27) (by as_aux_lemma => rw [HO1.out]; simp only [List.getElem?_toArray, List.getElem?_cons_succ, List.getElem?_cons_zero]; rfl) (by as_aux_lemma => rw [HO1.out]; rfl) (fun K' hK => ?_)
      go_simp
      refine (rMul_q ((Q3.out.up V14).iv SX.out) ((Q5.out.up V14).iv SY.out) (by omega)).mono ?_
      rintro e w15 ⟨v15, rfl, hQ15, U15⟩
      obtain ⟨s15, A15, n15, c15, B15, m15, d15, rfl⟩ := hQ15.shape
      have HQ15 := Lib.hid hQ15
      have V15 : Up w12 w15 := Up.trans V14 U15
      have kk15 := HE.out _ V15
      clear hQ15
      go_wp2_with fail
      refine hK.out _ _ kk15 (fun _ => ?_)
      clear hK K'
      try simp only [Act.put, List.setIfInBounds_toArray, List.set_cons_zero, List.set_cons_succ]
      refine wpSched_call (i := 28) (by as_aux_lemma => rw [HO1.out]; simp only [List.getElem?_toArray, List.getElem?_cons_succ, List.getElem?_cons_zero]; rfl) (by as_aux_lemma => rw [HO1.out]; rfl) (fun K' hK => ?_)
      go_simp
      have HS16 := Lib.hid (sameRat_q (Q11.out.up V15) HQ15.out SV.out SV.out)
      rw [decide_eq_true rfl] at HS16
      refine HS16.out.mono ?_
      rintro e w16 ⟨rfl, u16⟩
      have V16 := V15.trans u16
      have kk16 := HE.out _ V16
      go_wp2_with fail
      refine hK.out _ _ kk16 (fun _ => ?_)
      clear hK K'
      try simp only [Act.put, List.setIfInBounds_toArray, List.set_cons_zero, List.set_cons_succ]
      refine wpSched_take (i := 29) (v := ?v1x26) (by as_aux_lemma => rw [HO1.out]; simp only [List.getElem?_toArray, List.getElem?_cons_succ, List.getElem?_cons_zero]; rfl) (Or.inl ⟨(by rfl), ?y1x26⟩) ?r1x26
      case y1x26 => as_aux_lemma => intro wx hSx; (try dsimp only at hSx); go_simp; try with_reducible rfl
      try simp only [Act.put, List.setIfInBounds_toArray, List.set_cons_zero, List.set_cons_succ]
      refine wpSched_take (i := 30) (v := ?v1x27) (by as_aux_lemma => rw [HO1.out]; simp only [List.getElem?_toArray, List.getElem?_cons_succ, List.getElem?_cons_zero]; rfl) (Or.inl ⟨(by rfl), ?y1x27⟩) ?r1x27
      case y1x27 => as_aux_lemma => intro wx hSx; (try dsimp only at hSx); go_simp; try with_reducible rfl
      try simp only [Act.put, List.setIfInBounds_toArray, List.set_cons_zero, List.set_cons_succ]
      refine wpSched_call (i := 31) (by as_aux_lemma => rw [HO1.out]; simp only [List.getElem?_toArray, List.getElem?_cons_succ, List.getElem?_cons_zero]; rfl) (by as_aux_lemma => rw [HO1.out]; rfl) (fun K' hK => ?_)
      go_simp
      refine (awake02_any _).mono ?_
      rintro e w17 ⟨rfl, u17⟩
      have V17 := V16.trans u17
      have kk17 := HE.out _ V17
      go_wp2_with fail
      refine hK.out _ _ kk17 (fun _ => ?_)
      clear hK K'
      try simp only [Act.put, List.setIfInBounds_toArray, List.set_cons_zero, List.set_cons_succ]
      refine wpSched_take (i := 32) (v := ?v1x28) (by as_aux_lemma => rw [HO1.out]; simp only [List.getElem?_toArray, List.getElem?_cons_succ, List.getElem?_cons_zero]; rfl) (Or.inl ⟨(by rfl), ?y1x28⟩) ?r1x28
      case y1x28 => as_aux_lemma => intro wx hSx; (try dsimp only at hSx); go_simp; try with_reducible rfl
      try simp only [Act.put, List.setIfInBounds_toArray, List.set_cons_zero, List.set_cons_succ]
      refine wpSched_take (i := 33) (v := ?v1x29) (by as_aux_lemma => rw [HO1.out]; simp only [List.getElem?_toArray, List.getElem?_cons_succ, List.getElem?_cons_zero]; rfl) (Or.inl ⟨(by rfl), ?y1x29⟩) ?r1x29
      case y1x29 => as_aux_lemma => intro wx hSx; (try dsimp only at hSx); go_simp; try with_reducible rfl
      try simp only [Act.put, List.setIfInBounds_toArray, List.set_cons_zero, List.set_cons_succ]
      refine wpSched_end (NoPanic.normal ?_)
      clear HO1 O1
      go_wp2_with fail
      go_ret
      exact ⟨rfl, U.trans V17⟩
end Go.Proofs.Ytkngegcfdabpoaa
