/-
  BinomialBases: for every list of rational numbers and every integer the law returns true. Conditions: none.
-/
import Derived.Test.YtkngegcfdabpoaaLPowP
import Derived.Test.YtkngegcfdabpoaaLFp
import Derived.Test.YtkngegcfdabpoaaLEval
import Derived.Test.YtkngegcfdabpoaaLSame
import Derived.Test.YtkngegcfdabpoaaLLaw
import Derived.Test.YtkngegcfdabpoaaPI
import Derived.Test.YtkngegcfdabpoaaBAwake
namespace Go.Proofs.Ytkngegcfdabpoaa
open Go.RowKit

/-- Horner's rule, r steps. -/
def hor (l : List Rat) (x : Rat) : Nat → Rat
  | 0 => ((0 : Int) : Rat)
  | r + 1 => hor l x r * x + l.getD (l.length - 1 - r) 0
theorem hor_step (l : List Rat) (x : Rat) (r : Nat) : hor l x r * x + l.getD (l.length - 1 - r) 0 = hor l x (r + 1) := rfl
theorem hor_part (l : List Rat) (x : Rat) : ∀ r, r ≤ l.length → pwr l.length (fun i => l.getD i 0) x = sm (l.length - r) (fun j => l.getD j 0 * x ^ j) + x ^ (l.length - r) * hor l x r := by
  intro r
  induction r with
  | zero => intro _; rw [Nat.sub_zero, pwr, show hor l x 0 = 0 from rfl]; grind
  | succ r ih =>
    intro hr
    rw [ih (by omega), ← hor_step]
    obtain ⟨k, hk⟩ : ∃ k, l.length - r = k + 1 := ⟨l.length - r - 1, by omega⟩
    rw [show l.length - (r + 1) = k by omega, show l.length - 1 - r = k by omega, hk, sm_succ, Rat.pow_succ]
    grind
theorem hor_end (l : List Rat) (x : Rat) : hor l x l.length = pwr l.length (fun i => l.getD i 0) x := by
  have h := hor_part l x l.length (Nat.le_refl _)
  rw [Nat.sub_self, sm_zero, Rat.pow_zero] at h
  rw [h]; grind
theorem qs_hor (l : List Rat) (x : Rat) (C : Nat) (h : ∀ q ∈ l, qs q ≤ C) (hC : 3 ≤ C) (hx : qs x ≤ 3) (r : Nat) : qs (hor l x r) ≤ r * (C + 4) + 3 := by
  induction r with
  | zero => exact Nat.le_trans (qs_int 0 (by omega) (by omega)) (by omega)
  | succ r ih =>
    rw [← hor_step]
    have a1 := qs_add (hor l x r * x) (l.getD (l.length - 1 - r) 0)
    have a2 := qs_mul (hor l x r) x
    have a3 := qs_getD h hC (l.length - 1 - r)
    rw [Nat.succ_mul]
    omega
theorem bases_back {ps : List Rat} (h : ps.length ≤ 10) : fpV (powV ps) = cutL ps ∧ powB (powV ps) = true ∧ powB ps = true := by
  have hl := powV_len ps
  rw [(fp_yes (ps := powV ps) (by omega)).1, (fp_yes (ps := powV ps) (by omega)).2, (pow_yes (ps := ps) (by omega)).2, (pow_yes (ps := ps) (by omega)).1]
  exact ⟨fp_pow ps, rfl, rfl⟩
theorem bases_val {ps : List Rat} {n : Int} (h : ps.length ≤ 10) (hn : 0 ≤ n) : pwr (powV ps).length (fun i => (powV ps).getD i 0) (n : Rat) = evalV ps n ∧ evalB ps = true := by
  rw [(eval_yes (ps := ps) (n := n) (by omega)).1, (eval_yes (ps := ps) (n := n) (by omega)).2, (pow_yes (ps := ps) (by omega)).1, pwr_cut, powL_pwr, show max 0 n = n by omega]
  exact ⟨rfl, rfl⟩

set_option maxRecDepth 100000 in
set_option maxHeartbeats 6400000 in
theorem BinomialBases_walk (A : Option Addr) (ca : Nat) (vs : List Value) (n : Int) (w : World) (hr : EL w w.heap.size A vs) (hx : vs.length ≤ ca ∧ ca ≤ 9223372036854775807 ∧ ∀ u ∈ vs, ∃ s xs ys, RV w u s xs ys) (hn : (Lit.int .i64 n).wf = true) :
    Calls Try.prog 7 #[.slice A vs.length ca, .int .i64 n] w fun e w' => e = .returned (.bool true) ∧ Up w w' := by
  simp [Lit.wf, IntKind.min, IntKind.max, IntKind.bits, IntKind.signed] at hn
  obtain ⟨hn1, hn2⟩ := hn
  have HK := Lib.hid (few_q hr hx)
  cases hq : ratsB vs 10 with
  | false =>
    rw [hq] at HK
    clear hr hx hq
    go_enter Try.func7, Try.ntmps7
    go_wp2_with fail
    refine HK.out.mono ?_
    rintro e w1 ⟨rfl, U1⟩
    go_wp2_with fail
    go_ret
    exact ⟨rfl, U1⟩
  | true =>
    rw [hq] at HK
    obtain ⟨ps, hl, hln, hR⟩ := rats_small hr hx hq
    rw [← hl] at HK ⊢
    have h9 := hR.qs9
    by_cases h1 : n < 0
    · have t1 : decide (n < 0) = true := by simpa using h1
      clear hr hx hq hR h9 hl hln
      go_enter Try.func7, Try.ntmps7
      go_wp2_with fail
      refine HK.out.mono ?_
      rintro e w1 ⟨rfl, U1⟩
      go_wp2_with fail
      go_ret
      exact ⟨rfl, U1⟩
    have t1 : decide (n < 0) = false := by simpa using h1
    by_cases h2 : 1000 < n
    · have t2 : decide (1000 < n) = true := by simpa using h2
      clear hr hx hq hR h9 hl hln
      go_enter Try.func7, Try.ntmps7
      go_wp2_with fail
      refine HK.out.mono ?_
      rintro e w1 ⟨rfl, U1⟩
      go_wp2_with fail
      go_ret
      exact ⟨rfl, U1⟩
    have t2 : decide (1000 < n) = false := by simpa using h2
    have hpm := powV_mem h9
    have hpl := powV_len ps
    have HP1 := Lib.hid (fun wx (h : RX (some 8) wx A ps) => powers_q (cap0 := ca) h xb8 (by omega) (by omega) (by omega))
    have HP2 := Lib.hid (fun wx A' ca' (h : RX none wx A' (powV ps)) => fromPowers_q (cap0 := ca') (B := pB 9) h hpm (by unfold pB; omega) (by unfold pB; omega) (by omega))
    have HE1 := Lib.hid (fun wx (h : RX (some 8) wx A ps) => eval_q (cap := ca) h xb8 (by omega) (by omega) (by omega) n hn1 hn2)
    have HC := Lib.hid (fun wx (h : RX (some 8) wx A ps) => bCanonical_q (cap := ca) h xb8 (by omega) (by omega))
    have HBB := bases_back hln
    have HBV := bases_val (n := n) hln (by omega)
    rw [HBB.2.2] at HP1
    rw [HBB.1, HBB.2.1] at HP2
    rw [HBV.2] at HE1
    have HM := Lib.hid (cutL_mem h9 (by omega))
    have HL := Lib.hid (show (cutL ps).length ≤ 1000 from Nat.le_trans (cutL_len ps) (by omega))
    have HQ := Lib.hid (show qs (evalV ps n) ≤ 17179869184 from Nat.le_trans (qs_evalV ps 9 h9 (by omega) n hn2) (by omega))
    obtain ⟨x, hx'⟩ : ∃ x : Rat, x = (n : Rat) := ⟨_, rfl⟩
    have HXN := Lib.hid hx'
    have HXQ := Lib.hid (show qs x ≤ 3 by rw [hx']; exact qs_int n hn1 hn2)
    have HVV := Lib.hid (show pwr (powV ps).length (fun i => (powV ps).getD i 0) x = evalV ps n by rw [hx']; exact HBV.1)
    have HHQ := Lib.hid (fun r (hr : r ≤ 10) => Nat.le_trans (qs_hor (powV ps) x (pB 9) hpm (by unfold pB; omega) HXQ.out r) (by have := Nat.mul_le_mul_right (pB 9 + 4) hr; unfold pB at *; omega : _ ≤ 100000))
    have HLQ := Lib.hid (fun i => Nat.le_trans (qs_getD hpm (by unfold pB; omega) i) (by unfold pB; omega : _ ≤ 2000))
    have HL10 : (powV ps).length ≤ 10 := by omega
    obtain ⟨q, hq'⟩ : ∃ q, q = evalV ps n := ⟨_, rfl⟩
    rw [← hq'] at HE1 HQ HVV
    obtain ⟨l, hl'⟩ : ∃ l, l = powV ps := ⟨_, rfl⟩
    rw [← hl'] at HP1 HP2 HVV HHQ HLQ HL10
    clear hx' hq' hl' hr hx hq h9 hl h1 h2 HBB HBV hpm hpl
    go_enter Try.func7, Try.ntmps7
    have U : Up w w := Up.refl w
    have R0 := Lib.hid hR
    clear hR
    go_wp2_with fail
    refine (HK.out).mono ?_
    rintro e w1 ⟨rfl, u1⟩
    have ux : Up w w1 := u1
    replace U := Up.trans U ux
    replace R0 := Lib.hid (R0.out.up ux)
    clear ux
    go_wp2_with fail
    refine (HP1.out _ R0.out).mono ?_
    rintro e w2 ⟨A2, c2, rfl, h1, h2, h3, u2⟩
    have L2 := Lib.hid h3
    have H2 := Lib.hid (And.intro h1 h2)
    clear h1 h2 h3
    have ux : Up w1 w2 := u2
    replace U := Up.trans U ux
    replace R0 := Lib.hid (R0.out.up ux)
    clear ux
    go_wp2_with fail
    refine (HP2.out _ _ _ L2.out).mono ?_
    rintro e w3 ⟨A3, c3, rfl, h1, h2, h3, u3⟩
    have L3 := Lib.hid h3
    have H3 := Lib.hid (And.intro h1 h2)
    clear h1 h2 h3
    have ux : Up w2 w3 := u3
    replace U := Up.trans U ux
    replace R0 := Lib.hid (R0.out.up ux)
    replace L2 := Lib.hid (L2.out.up ux)
    clear ux
    go_wp2_with fail
    refine (HE1.out _ R0.out).mono ?_
    rintro e w4 ⟨v4, rfl, hQ4, u4⟩
    obtain ⟨s4, A4, n4, c4, B4, m4, d4, rfl⟩ := hQ4.shape
    have Q4 := Lib.hid hQ4
    clear hQ4
    have ux : Up w3 w4 := u4
    replace U := Up.trans U ux
    replace R0 := Lib.hid (R0.out.up ux)
    replace L2 := Lib.hid (L2.out.up ux)
    replace L3 := Lib.hid (L3.out.up ux)
    clear ux
    go_wp2_with fail
    obtain ⟨w5, hw5⟩ : ∃ wx, wx = (w4.alloc (Obj.cells #[.bool s4, .slice A4 n4 c4, .slice B4 m4 d4] 31)) := ⟨_, rfl⟩
    have hUw5 : Up w4 w5 := by rw [hw5]; exact Below.alloc (Below.refl _ _) (Nat.le_refl _) _
    have bx4 : Blk w5 (w4.heap.size) 31 #[.bool s4, .slice A4 n4 c4, .slice B4 m4 d4] := by rw [hw5]; exact Blk.new' _ _ _ (by simp)
    rw [← hw5]
    clear hw5
    obtain ⟨g4, hg4⟩ : ∃ g, g = w4.heap.size := ⟨_, rfl⟩
    rw [← hg4] at bx4
    try rw [show w4.heap.size = g4 from hg4.symm]
    clear hg4
    have ux : Up w4 w5 := hUw5
    replace U := Up.trans U ux
    replace R0 := Lib.hid (R0.out.up ux)
    replace L2 := Lib.hid (L2.out.up ux)
    replace L3 := Lib.hid (L3.out.up ux)
    replace Q4 := Lib.hid (Q4.out.up ux)
    clear ux
    clear hUw5
    obtain ⟨bx4a, bx4b, bx4c⟩ := tri bx4
    go_wp2_with fail
    refine (rFromInt_q 0 (by omega) (by omega)).mono ?_
    rintro e w6 ⟨v6, rfl, hQ6, u6⟩
    obtain ⟨s6, A6, n6, c6, B6, m6, d6, rfl⟩ := hQ6.shape
    have Q6 := Lib.hid hQ6
    clear hQ6
    have ux : Up w5 w6 := u6
    replace U := Up.trans U ux
    replace R0 := Lib.hid (R0.out.up ux)
    replace L2 := Lib.hid (L2.out.up ux)
    replace L3 := Lib.hid (L3.out.up ux)
    replace Q4 := Lib.hid (Q4.out.up ux)
    replace bx4 := Blk.up bx4 ux
    clear ux
    have zbx4 := bx4.lt
    obtain ⟨bx4a, bx4b, bx4c⟩ := tri bx4
    clear bx4a bx4b bx4c
    obtain ⟨lp, hlp⟩ : ∃ m, m = l.length := ⟨_, rfl⟩
    have HLP := Lib.hid hlp
    rw [← hlp] at HL10 ⊢
    clear hlp
    have i0 : (lp : Int) ≤ 10 := by have := HL10; omega
    go_wp2_with fail
    obtain ⟨w7, hw7⟩ : ∃ wx, wx = w6.alloc (Obj.cells #[.bool s6, .slice A6 n6 c6, .slice B6 m6 d6] 31) := ⟨_, rfl⟩
    have U7 : Up w6 w7 := by rw [hw7]; exact Below.alloc (Up.refl _) (Nat.le_refl _) _
    have b7 : Blk w7 w6.heap.size 31 #[.bool s6, .slice A6 n6 c6, .slice B6 m6 d6] := by rw [hw7]; exact Blk.new' _ _ _ rfl
    rw [← hw7]
    obtain ⟨gs, hgs⟩ : ∃ g, g = w6.heap.size := ⟨_, rfl⟩
    have hgs2 : w6.heap.size ≤ gs := by omega
    have hgg : g4 ≠ gs := by omega
    rw [← hgs] at b7 ⊢
    have HI7 := Lib.hid (show BoxQ w7 gs (hor l x 0) from ⟨_, _, _, _, _, _, _, b7, Q6.out.up U7⟩)
    have B4 := Lib.hid bx4
    clear hw7 hgs b7 zbx4 bx4 hgg
    go_loopw [12] (fun kv wr => ∃ K : Nat, K ≤ lp ∧ kv = .int .i64 ((K : Int) - 1) ∧ Hid (BoxQ wr gs (hor l x (lp - K))) ∧ Up w6 wr) (fun kv _ => (intOf kv + 1).toNat)
    case atStart => exact ⟨lp, Nat.le_refl _, rfl, by rw [Nat.sub_self]; exact HI7, U7⟩
    case round =>
      obtain ⟨K, hK, rfl, HI, hUr⟩ := hrel
      clear HI7 U7
      obtain ⟨sb, Ab, nb, cb, Bb, mb, db, bs, hqs⟩ := HI.out
      by_cases hK0 : K = 0
      · subst hK0
        have t9 : decide ((0 : Int) ≤ -1) = false := by decide
        rw [Nat.sub_zero, HLP.out, hor_end, HVV.out] at hqs
        have HQS := Lib.hid hqs
        have R0' := Lib.hid (R0.out.up hUr)
        have L3' := Lib.hid (L3.out.up hUr)
        have Q4' := Lib.hid (Q4.out.up hUr)
        have b4 := B4.out.up hUr
        obtain ⟨k0, k1, k2⟩ := tri bs
        obtain ⟨y0, y1, y2⟩ := tri b4
        clear hqs HI
        go_wp2_with fail
        refine (HC.out _ R0'.out).mono ?_
        rintro e w10 ⟨g10, rfl, h1, h2, u10⟩
        have L10 := Lib.hid h2.rx
        clear h1 h2
        have HS := Lib.hid (sameRats_q (cap := c3) (cap' := (cutL ps).length) (L3'.out.up u10) L10.out HM.out HM.out (by omega) HL.out HL.out)
        rw [decide_eq_true rfl] at HS
        have bs1 := bs.up u10
        have b41 := b4.up u10
        clear k0 k1 k2 y0 y1 y2
        obtain ⟨k0, k1, k2⟩ := tri bs1
        obtain ⟨y0, y1, y2⟩ := tri b41
        go_wp2_with fail
        refine HS.out.mono ?_
        rintro e w11 ⟨rfl, u11⟩
        have bs2 := bs1.up u11
        have b42 := b41.up u11
        clear k0 k1 k2 y0 y1 y2
        obtain ⟨k0, k1, k2⟩ := tri bs2
        obtain ⟨y0, y1, y2⟩ := tri b42
        have HS2 := Lib.hid (sameRat_q ((HQS.out.up u10).up u11) ((Q4'.out.up u10).up u11) HQ.out HQ.out)
        rw [decide_eq_true rfl] at HS2
        go_wp2_with fail
        refine HS2.out.mono ?_
        rintro e w12 ⟨rfl, u12⟩
        go_wp2_with fail
        refine (awake02_any _).mono ?_
        rintro e w13 ⟨rfl, u13⟩
        go_wp2_with fail
        go_ret
        exact ⟨rfl, U.trans (hUr.trans (u10.trans (u11.trans (u12.trans u13))))⟩
      · obtain ⟨k, rfl⟩ : ∃ k, K = k + 1 := ⟨K - 1, by omega⟩
        have ek : ((k + 1 : Nat) : Int) - 1 = (k : Int) := by omega
        rw [ek]
        clear ek hK0
        have t9 : decide ((0 : Int) ≤ (k : Int)) = true := by simp
        have j1 : (0 : Int) ≤ k := by omega
        have j2 : (k : Int) < lp := by omega
        obtain ⟨bl, offl, s, X, a, c, Y, m, d, he, hbl, hx, c0, c1, c2⟩ := (L2.out.up hUr).at_ (k := k) (by rw [← HLP.out]; omega)
        subst he
        have HF1 := Lib.hid (fun (wx : World) => rFromInt_q (w := wx) n (by omega) (by omega))
        rw [← HXN.out] at HF1
        have HQH := Lib.hid (HHQ.out (lp - (k + 1)) (by omega))
        have HQL := Lib.hid (HLQ.out k)
        have HM1 := Lib.hid (fun wx vx (u : Up wr wx) (h : QV wx vx x) => rMul_q ((hqs.up u).iv HQH.out) (h.iv HXQ.out) (by omega))
        have HA1 := Lib.hid (fun wx vx (u : Up wr wx) (h : QV wx vx (hor l x (lp - (k + 1)) * x)) => rAdd_q (h.iv (Nat.le_trans (qs_mul _ _) (Nat.add_le_add HQH.out HXQ.out))) (XV.iv (o := none) (hx.up u) HQL.out) (by omega))
        have hst := hor_step l x (lp - (k + 1))
        rw [show l.length - 1 - (lp - (k + 1)) = k by have := HLP.out; omega, show lp - (k + 1) + 1 = lp - k by omega] at hst
        rw [hst] at HA1
        obtain ⟨x0, x1, x2⟩ := tri bs
        have ls := bs.lt
        have HE : Hid (∀ W : World, Up wr W → (W.cell? ⟨gs, 0, none⟩ = some (.bool sb) ∧ W.cell? ⟨gs, 1, none⟩ = some (.slice Ab nb cb) ∧ W.cell? ⟨gs, 2, none⟩ = some (.slice Bb mb db)) ∧ (W.cell? ⟨bl, offl + k * 3, none⟩ = some (.bool s) ∧ W.cell? ⟨bl, offl + k * 3 + 1, none⟩ = some (.slice X a c) ∧ W.cell? ⟨bl, offl + k * 3 + 2, none⟩ = some (.slice Y m d))) := Lib.hid fun W hW => And.intro (tri (bs.up hW)) (⟨by rw [hW.cell (by exact hbl)]; exact c0, by rw [hW.cell (by exact hbl)]; exact c1, by rw [hW.cell (by exact hbl)]; exact c2⟩)
        clear hqs hx hst HI
        go_wp2_with fail
        refine wp_region_noPanic ?_
        refine wp_region_till (S := (fun wx => (wx.cell? ⟨gs, 0, none⟩ = some (.bool sb) ∧ wx.cell? ⟨gs, 1, none⟩ = some (.slice Ab nb cb) ∧ wx.cell? ⟨gs, 2, none⟩ = some (.slice Bb mb db)) ∧ (wx.cell? ⟨bl, offl + k * 3, none⟩ = some (.bool s) ∧ wx.cell? ⟨bl, offl + k * 3 + 1, none⟩ = some (.slice X a c) ∧ wx.cell? ⟨bl, offl + k * 3 + 2, none⟩ = some (.slice Y m d)))) 9 [(0, 0), (1, 0), (4, 0), (5, 0), (6, 0), (7, 0), (2, 1), (3, 1), (8, 1)] [9] (by kernel_rfl) (by as_aux_lemma => kernel_rfl) (by as_aux_lemma => kernel_rfl) (by as_aux_lemma => kernel_rfl) (fun _ _ _ _ _ h => h) (HE.out _ (Up.refl wr).drew) ?_
        intro O7 HO7
        refine wpT_take (i := 0) (v := ?_) (by as_aux_lemma => rw [HO7.out]; simp only [List.getElem?_toArray, List.getElem?_cons_zero]; rfl) (Or.inl ⟨(by rfl), ?_⟩) ?_
        rotate_left
        · as_aux_lemma => intro wx hSx; (try dsimp only at hSx); go_simp; try with_reducible rfl
        try simp only [Act.put, List.setIfInBounds_toArray, List.set_cons_zero, List.set_cons_succ]
        refine wpT_take (i := 1) (v := ?_) (by as_aux_lemma => rw [HO7.out]; simp only [List.getElem?_toArray, List.getElem?_cons_succ, List.getElem?_cons_zero]; rfl) (Or.inl ⟨(by rfl), ?_⟩) ?_
        rotate_left
        · as_aux_lemma => intro wx hSx; (try dsimp only at hSx); go_simp; try with_reducible rfl
        try simp only [Act.put, List.setIfInBounds_toArray, List.set_cons_zero, List.set_cons_succ]
        refine wpT_take (i := 4) (v := ?_) (by as_aux_lemma => rw [HO7.out]; simp only [List.getElem?_toArray, List.getElem?_cons_succ, List.getElem?_cons_zero]; rfl) (Or.inl ⟨(by rfl), ?_⟩) ?_
        rotate_left
        · as_aux_lemma => intro wx hSx; (try dsimp only at hSx); go_simp; try with_reducible rfl
        try simp only [Act.put, List.setIfInBounds_toArray, List.set_cons_zero, List.set_cons_succ]
        refine wpT_take (i := 5) (v := ?_) (by as_aux_lemma => rw [HO7.out]; simp only [List.getElem?_toArray, List.getElem?_cons_succ, List.getElem?_cons_zero]; rfl) (Or.inl ⟨(by rfl), ?_⟩) ?_
        rotate_left
        · as_aux_lemma => intro wx hSx; (try dsimp only at hSx); go_simp; try with_reducible rfl
        try simp only [Act.put, List.setIfInBounds_toArray, List.set_cons_zero, List.set_cons_succ]
        refine wpT_take (i := 6) (v := ?_) (by as_aux_lemma => rw [HO7.out]; simp only [List.getElem?_toArray, List.getElem?_cons_succ, List.getElem?_cons_zero]; rfl) (Or.inl ⟨(by rfl), ?_⟩) ?_
        rotate_left
        · as_aux_lemma => intro wx hSx; (try dsimp only at hSx); go_simp; try with_reducible rfl
        try simp only [Act.put, List.setIfInBounds_toArray, List.set_cons_zero, List.set_cons_succ]
        refine wpT_take (i := 7) (v := ?_) (by as_aux_lemma => rw [HO7.out]; simp only [List.getElem?_toArray, List.getElem?_cons_succ, List.getElem?_cons_zero]; rfl) (Or.inl ⟨(by rfl), ?_⟩) ?_
        rotate_left
        · as_aux_lemma => intro wx hSx; (try dsimp only at hSx); go_simp; try with_reducible rfl
        try simp only [Act.put, List.setIfInBounds_toArray, List.set_cons_zero, List.set_cons_succ]
        refine wpT_call (i := 2) (by as_aux_lemma => rw [HO7.out]; simp only [List.getElem?_toArray, List.getElem?_cons_succ, List.getElem?_cons_zero]; rfl) (by rfl) (fun K' hK => ?_)
        go_simp
        refine (HF1.out _).mono ?_
        rintro e w7 ⟨v7, rfl, hQ7, U7⟩
        obtain ⟨s7, A7, n7, c7, B7, m7, d7, rfl⟩ := hQ7.shape
        have HQ7 := Lib.hid hQ7
        have V7 : Up wr w7 := Up.trans (Up.refl wr).drew U7
        have kk7 := HE.out _ V7
        clear hQ7
        go_wp2_with fail
        refine hK.out _ _ kk7 (fun _ => ?_)
        clear hK K'
        try simp only [Act.put, List.setIfInBounds_toArray, List.set_cons_zero, List.set_cons_succ]
        refine wpT_call (i := 3) (by as_aux_lemma => rw [HO7.out]; simp only [List.getElem?_toArray, List.getElem?_cons_succ, List.getElem?_cons_zero]; rfl) (by rfl) (fun K' hK => ?_)
        go_simp
        refine (HM1.out _ _ V7 HQ7.out).mono ?_
        rintro e w8 ⟨v8, rfl, hQ8, U8⟩
        obtain ⟨s8, A8, n8, c8, B8, m8, d8, rfl⟩ := hQ8.shape
        have HQ8 := Lib.hid hQ8
        have V8 : Up wr w8 := Up.trans V7 U8
        have kk8 := HE.out _ V8
        clear hQ8
        go_wp2_with fail
        refine hK.out _ _ kk8 (fun _ => ?_)
        clear hK K'
        try simp only [Act.put, List.setIfInBounds_toArray, List.set_cons_zero, List.set_cons_succ]
        refine wpT_call (i := 8) (by as_aux_lemma => rw [HO7.out]; simp only [List.getElem?_toArray, List.getElem?_cons_succ, List.getElem?_cons_zero]; rfl) (by rfl) (fun K' hK => ?_)
        go_simp
        refine (HA1.out _ _ V8 HQ8.out).mono ?_
        rintro e w9 ⟨v9, rfl, hQ9, U9⟩
        obtain ⟨s9, A9, n9, c9, B9, m9, d9, rfl⟩ := hQ9.shape
        have HQ9 := Lib.hid hQ9
        have V9 : Up wr w9 := Up.trans V8 U9
        have kk9 := HE.out _ V9
        clear hQ9
        have x9 := bs.up V9
        obtain ⟨k0, k1, k2⟩ := tri x9
        have f0 := x9.frozen 0
        have f1 := x9.frozen 1
        have f2 := x9.frozen 2
        go_wp2_with fail
        refine hK.out _ _ kk9 (fun _ => ?_)
        clear hK K'
        try simp only [Act.put, List.setIfInBounds_toArray, List.set_cons_zero, List.set_cons_succ]
        refine wpT_tail (i := 9) (by as_aux_lemma => rw [HO7.out]; simp only [List.getElem?_toArray, List.getElem?_cons_succ, List.getElem?_cons_zero]; rfl) (by rfl) (fun K' hK => ?_)
        go_simp
        go_wp2_with fail
        refine hK.out _ _ ?_
        clear hK K'
        try simp only [Act.put, List.setIfInBounds_toArray, List.set_cons_zero, List.set_cons_succ]
        refine wpT_end (NoPanic.normal ?_)
        clear HO7 O7
        have HB9 := Lib.hid (BoxQ.of (t := 0) x9 HQ9.out)
        have U9 := up_tri (g := gs) (hUr.trans V9) hgs2 (.bool s9) (.slice A9 n9 c9) (.slice B9 m9 d9)
        clear x9
        go_wp2_with fail
        go_roundw
        case rel => exact ⟨k, by omega, rfl, HB9, U9⟩
        case measure => simp [intOf]
end Go.Proofs.Ytkngegcfdabpoaa
