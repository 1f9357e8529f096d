/-
  BinomialInterpolates: for every list of rational numbers the law returns true. Conditions: none.
-/
import Derived.Test.YtkngegcfdabpoaaLDiffP
import Derived.Test.YtkngegcfdabpoaaLEval
import Derived.Test.YtkngegcfdabpoaaLSame
import Derived.Test.YtkngegcfdabpoaaLLaw
import Derived.Test.YtkngegcfdabpoaaBAwake
import Derived.Test.YtkngegcfdabpoaaPF
namespace Go.Proofs.Ytkngegcfdabpoaa
open Go.RowKit

theorem interp_val {ps : List Rat} (h : ps.length ≤ 10) (i : Nat) (hi : i < ps.length) : evalV (diffV ps) (i : Int) = ps.getD i 0 ∧ evalB (diffV ps) = true := by
  have hl := diffV_len ps
  rw [(eval_yes (ps := diffV ps) (n := (i : Int)) (by omega)).1, (eval_yes (ps := diffV ps) (n := (i : Int)) (by omega)).2, (diff_yes (by omega)).1, pat_cut, show max 0 (i : Int) = (i : Int) by omega, Rat.intCast_natCast, newton_pat _ _ _ hi]
  exact ⟨rfl, rfl⟩

set_option maxRecDepth 100000 in
set_option maxHeartbeats 6400000 in
theorem BinomialInterpolates_walk (A : Option Addr) (ca : Nat) (vs : List Value) (w : World) (hr : EL w w.heap.size A vs) (hx : vs.length ≤ ca ∧ ca ≤ 9223372036854775807 ∧ ∀ u ∈ vs, ∃ s xs ys, RV w u s xs ys) (hnil : A = none → ca = 0) :
    Calls Try.prog 4 #[.slice A vs.length ca] w fun e w' => e = .returned (.bool true) ∧ Up w w' := by
  have HK := Lib.hid (few_q hr hx)
  cases hq : ratsB vs 10 with
  | false =>
    rw [hq] at HK
    clear hr hx hq
    go_enter Try.func4, Try.ntmps4
    go_wp2_with fail
    refine HK.out.mono ?_
    rintro e w1 ⟨rfl, U1⟩
    go_wp2_with fail
    go_ret
    exact ⟨rfl, U1⟩
  | true =>
    rw [hq] at HK
    obtain ⟨ps, hl, hln, hR⟩ := rats_small hr hx hq
    rw [← hl] at HK ⊢
    have h9 := hR.qs9
    have HP1 := Lib.hid (fun wx (h : RX (some 8) wx A ps) => diffs_q (cap := ca) h xb8 (by omega) (by omega) hnil)
    have hdm := diffV_mem h9 (by omega)
    have hdl := diffV_len ps
    rw [(diff_yes (ps := ps) (by omega)).2] at HP1
    have HIV := Lib.hid (fun i (hi : i < ps.length) => interp_val hln i hi)
    have HEV := Lib.hid (fun (i : Nat) wx A' ca' (hi : i < 100) (h : RX none wx A' (diffV ps)) => eval_q (cap := ca') (B := dB 9) h hdm (by unfold dB; omega) (by unfold dB; omega) (by omega) (i : Int) (by omega) (by omega))
    have HQS := Lib.hid (qs_getD h9 (by omega))
    obtain ⟨N, hN⟩ : ∃ L, L = ps.length := ⟨_, rfl⟩
    have HL := Lib.hid hN
    rw [← hN] at hln HK HP1 hdl ⊢
    obtain ⟨l, hl'⟩ : ∃ l, l = diffV ps := ⟨_, rfl⟩
    rw [← hl'] at HP1 HEV hdl
    simp only [← hl'] at HIV
    obtain ⟨lp, hlp⟩ : ∃ m, m = l.length := ⟨_, rfl⟩
    have HLP := Lib.hid hlp
    have R0 := Lib.hid hR
    rw [← hlp] at hdl
    have t0 : decide (N < lp) = false := by simp; omega
    have t0i : decide ((N : Int) < (lp : Int)) = false := by simp; omega
    clear hl' hr hx hq h9 hl hnil hR hdm hlp hN
    go_enter Try.func4, Try.ntmps4
    go_wp2_with fail
    refine HK.out.mono ?_
    rintro e w1 ⟨rfl, U1⟩
    replace R0 := Lib.hid (R0.out.up U1)
    go_wp2_with fail
    refine (HP1.out _ R0.out).mono ?_
    rintro e w2 ⟨A2, c2, rfl, h1, h2, h3, U2⟩
    rw [← HLP.out] at h1 ⊢
    have L2 := Lib.hid h3
    replace R0 := Lib.hid (R0.out.up U2)
    have V2 := U1.trans U2
    clear h1 h2 h3 U1 U2
    go_wp2_with fail
    go_loopw [27] (fun iv wr => ∃ i : Nat, i ≤ N ∧ iv = .int .i64 i ∧ Up w2 wr) (fun iv _ => N - (intOf iv).toNat)
    case atStart => exact ⟨0, Nat.zero_le _, rfl, Up.refl _⟩
    case round =>
      obtain ⟨i, hi, rfl, hU⟩ := hrel
      clear t0 t0i
      by_cases hlt : i < N
      · have t1 : decide ((i : Int) < (N : Int)) = true := by simp; omega
        have t2 : decide (i < N) = true := by simp; omega
        have hiv := HIV.out i (by rw [← HL.out]; exact hlt)
        have HE1 := Lib.hid (HEV.out i wr A2 c2 (by omega) (L2.out.up hU))
        rw [hiv.1, hiv.2, ← HLP.out] at HE1
        obtain ⟨b, off, s, X, a, c, Y, m, d, he, hb, hx, c0, c1, c2'⟩ := (R0.out.up hU).at_ (k := i) (by rw [← HL.out]; exact hlt)
        subst he
        have HCX := Lib.hid hx
        have SQ := Lib.hid (Nat.le_trans (HQS.out i) (by omega : 9 ≤ 17179869184))
        obtain ⟨z, hz⟩ : ∃ z, z = ps.getD i 0 := ⟨_, rfl⟩
        rw [← hz] at HE1 HCX SQ
        have i1 : (0 : Int) ≤ i := by omega
        have i2 : (i : Int) < N := by omega
        have i3 : (i : Int) ≤ 100 := by omega
        clear hiv hx hz
        go_wp2_with fail
        refine HE1.out.mono ?_
        rintro e w4 ⟨v4, rfl, hQ4, U4⟩
        obtain ⟨s4, A4, n4, c4, B4, m4, d4, rfl⟩ := hQ4.shape
        have Q4 := Lib.hid hQ4
        have lb4 := Nat.lt_of_lt_of_le hb U4.size
        clear hQ4
        go_wp2_with fail
        obtain ⟨w5, hw5⟩ : ∃ w5, w5 = w4.alloc (Obj.cells #[.bool s4, .slice A4 n4 c4, .slice B4 m4 d4] 31) := ⟨_, rfl⟩
        have U5 : Up w4 w5 := by rw [hw5]; exact (Below.refl _ _).alloc (Nat.le_refl _) _
        have bx4 : Blk w5 w4.heap.size 31 #[.bool s4, .slice A4 n4 c4, .slice B4 m4 d4] := by rw [hw5]; exact Blk.new' _ _ _ rfl
        rw [← hw5]
        obtain ⟨g4, hg4⟩ : ∃ g, g = w4.heap.size := ⟨_, rfl⟩
        rw [← hg4] at bx4 ⊢
        replace Q4 := Lib.hid (Q4.out.up U5)
        have U45 := U4.trans U5
        have hbw : b < w5.heap.size := Nat.lt_of_lt_of_le hb U45.size
        have c0w := (U45.cell (p := ⟨b, off + i * 3, none⟩) hb).trans c0
        have c1w := (U45.cell (p := ⟨b, off + i * 3 + 1, none⟩) hb).trans c1
        have c2w := (U45.cell (p := ⟨b, off + i * 3 + 2, none⟩) hb).trans c2'
        have HCN := Lib.hid (fun wx (u : Up w5 wx) => rCanonical_q (XV.iv (HCX.out.up (U45.trans u)) (B := 8) (Nat.le_refl _)) (by omega))
        have HE : Hid (∀ W : World, Up w5 W → (W.cell? ⟨g4, 0, none⟩ = some (.bool s4) ∧ W.cell? ⟨g4, 1, none⟩ = some (.slice A4 n4 c4) ∧ W.cell? ⟨g4, 2, none⟩ = some (.slice B4 m4 d4)) ∧ (W.cell? ⟨b, off + i * 3, none⟩ = some (.bool s) ∧ W.cell? ⟨b, off + i * 3 + 1, none⟩ = some (.slice X a c) ∧ W.cell? ⟨b, off + i * 3 + 2, none⟩ = some (.slice Y m d))) := Lib.hid fun W hW => And.intro (tri (bx4.up hW)) (⟨by rw [hW.cell (by exact hbw)]; exact c0w, by rw [hW.cell (by exact hbw)]; exact c1w, by rw [hW.cell (by exact hbw)]; exact c2w⟩)
        clear hw5 hg4 U4 U5 lb4 c0 c1 c2'
        go_wp2_with fail
        refine wp_region_noPanic ?_
        refine wp_region_sched (S := (fun wx => (wx.cell? ⟨g4, 0, none⟩ = some (.bool s4) ∧ wx.cell? ⟨g4, 1, none⟩ = some (.slice A4 n4 c4) ∧ wx.cell? ⟨g4, 2, none⟩ = some (.slice B4 m4 d4)) ∧ (wx.cell? ⟨b, off + i * 3, none⟩ = some (.bool s) ∧ wx.cell? ⟨b, off + i * 3 + 1, none⟩ = some (.slice X a c) ∧ wx.cell? ⟨b, off + i * 3 + 2, none⟩ = some (.slice Y m d)))) [(0, false), (1, false), (2, false), (3, false), (4, false), (5, false), (6, false), (7, false), (8, true), (9, true), (10, false), (11, false)] (by kernel_rfl) (by as_aux_lemma => kernel_rfl) (by as_aux_lemma => kernel_rfl) (by as_aux_lemma => kernel_rfl) (fun _ _ _ _ _ h => h) (HE.out _ (Up.refl w5).drew) ?_
        intro O2 HO2
        refine wpSched_take (i := 0) (v := ?v2x1) (by as_aux_lemma => rw [HO2.out]; simp only [List.getElem?_toArray, List.getElem?_cons_zero]; rfl) (Or.inl ⟨(by rfl), ?y2x1⟩) ?r2x1
        case y2x1 => as_aux_lemma => intro wx hSx; (try dsimp only at hSx); go_simp; try with_reducible rfl
        try simp only [Act.put, List.setIfInBounds_toArray, List.set_cons_zero, List.set_cons_succ]
        refine wpSched_take (i := 1) (v := ?v2x2) (by as_aux_lemma => rw [HO2.out]; simp only [List.getElem?_toArray, List.getElem?_cons_succ, List.getElem?_cons_zero]; rfl) (Or.inl ⟨(by rfl), ?y2x2⟩) ?r2x2
        case y2x2 => as_aux_lemma => intro wx hSx; (try dsimp only at hSx); go_simp; try with_reducible rfl
        try simp only [Act.put, List.setIfInBounds_toArray, List.set_cons_zero, List.set_cons_succ]
        refine wpSched_take (i := 2) (v := ?v2x3) (by as_aux_lemma => rw [HO2.out]; simp only [List.getElem?_toArray, List.getElem?_cons_succ, List.getElem?_cons_zero]; rfl) (Or.inl ⟨(by rfl), ?y2x3⟩) ?r2x3
        case y2x3 => as_aux_lemma => intro wx hSx; (try dsimp only at hSx); go_simp; try with_reducible rfl
        try simp only [Act.put, List.setIfInBounds_toArray, List.set_cons_zero, List.set_cons_succ]
        refine wpSched_take (i := 3) (v := ?v2x4) (by as_aux_lemma => rw [HO2.out]; simp only [List.getElem?_toArray, List.getElem?_cons_succ, List.getElem?_cons_zero]; rfl) (Or.inl ⟨(by as_aux_lemma => rw [HO2.out]; rfl), ?y2x4⟩) ?r2x4
        case y2x4 => as_aux_lemma => intro wx hSx; (try dsimp only at hSx); go_simp; try with_reducible rfl
        try simp only [Act.put, List.setIfInBounds_toArray, List.set_cons_zero, List.set_cons_succ]
        refine wpSched_take (i := 4) (v := ?v2x5) (by as_aux_lemma => rw [HO2.out]; simp only [List.getElem?_toArray, List.getElem?_cons_succ, List.getElem?_cons_zero]; rfl) (Or.inl ⟨(by as_aux_lemma => rw [HO2.out]; rfl), ?y2x5⟩) ?r2x5
        case y2x5 => as_aux_lemma => intro wx hSx; (try dsimp only at hSx); go_simp; try with_reducible rfl
        try simp only [Act.put, List.setIfInBounds_toArray, List.set_cons_zero, List.set_cons_succ]
        refine wpSched_take (i := 5) (v := ?v2x6) (by as_aux_lemma => rw [HO2.out]; simp only [List.getElem?_toArray, List.getElem?_cons_succ, List.getElem?_cons_zero]; rfl) (Or.inl ⟨(by as_aux_lemma => rw [HO2.out]; rfl), ?y2x6⟩) ?r2x6
        case y2x6 => as_aux_lemma => intro wx hSx; (try dsimp only at hSx); go_simp; try with_reducible rfl
        try simp only [Act.put, List.setIfInBounds_toArray, List.set_cons_zero, List.set_cons_succ]
        refine wpSched_take (i := 6) (v := ?v2x7) (by as_aux_lemma => rw [HO2.out]; simp only [List.getElem?_toArray, List.getElem?_cons_succ, List.getElem?_cons_zero]; rfl) (Or.inl ⟨(by as_aux_lemma => rw [HO2.out]; rfl), ?y2x7⟩) ?r2x7
        case y2x7 => as_aux_lemma => intro wx hSx; (try dsimp only at hSx); go_simp; try with_reducible rfl
        try simp only [Act.put, List.setIfInBounds_toArray, List.set_cons_zero, List.set_cons_succ]
        refine wpSched_take (i := 7) (v := ?v2x8) (by as_aux_lemma => rw [HO2.out]; simp only [List.getElem?_toArray, List.getElem?_cons_succ, List.getElem?_cons_zero]; rfl) (Or.inl ⟨(by as_aux_lemma => rw [HO2.out]; rfl), ?y2x8⟩) ?r2x8
        case y2x8 => as_aux_lemma => intro wx hSx; (try dsimp only at hSx); go_simp; try with_reducible rfl
        try simp only [Act.put, List.setIfInBounds_toArray, List.set_cons_zero, List.set_cons_succ]
        refine wpSched_call (i := 8) (by as_aux_lemma => rw [HO2.out]; simp only [List.getElem?_toArray, List.getElem?_cons_succ, List.getElem?_cons_zero]; rfl) (by as_aux_lemma => rw [HO2.out]; rfl) (fun K' hK => ?_)
        go_simp
        refine (HCN.out _ (Up.refl w5).drew).mono ?_
        rintro e w6 ⟨v6, rfl, hQ6, U6⟩
        obtain ⟨s6, A6, n6, c6, B6, m6, d6, rfl⟩ := hQ6.shape
        have HQ6 := Lib.hid hQ6
        have V6 : Up w5 w6 := Up.trans (Up.refl w5).drew U6
        have kk6 := HE.out _ V6
        clear hQ6
        go_wp2_with fail
        refine hK.out _ _ kk6 (fun _ => ?_)
        clear hK K'
        try simp only [Act.put, List.setIfInBounds_toArray, List.set_cons_zero, List.set_cons_succ]
        refine wpSched_call (i := 9) (by as_aux_lemma => rw [HO2.out]; simp only [List.getElem?_toArray, List.getElem?_cons_succ, List.getElem?_cons_zero]; rfl) (by as_aux_lemma => rw [HO2.out]; rfl) (fun K' hK => ?_)
        go_simp
        have HS7 := Lib.hid (sameRat_q (Q4.out.up V6) HQ6.out SQ.out SQ.out)
        rw [decide_eq_true rfl] at HS7
        refine HS7.out.mono ?_
        rintro e w7 ⟨rfl, u7⟩
        have V7 := V6.trans u7
        have kk7 := HE.out _ V7
        go_wp2_with fail
        refine hK.out _ _ kk7 (fun _ => ?_)
        clear hK K'
        try simp only [Act.put, List.setIfInBounds_toArray, List.set_cons_zero, List.set_cons_succ]
        refine wpSched_take (i := 10) (v := ?v2x9) (by as_aux_lemma => rw [HO2.out]; simp only [List.getElem?_toArray, List.getElem?_cons_succ, List.getElem?_cons_zero]; rfl) (Or.inl ⟨(by as_aux_lemma => rw [HO2.out]; rfl), ?y2x9⟩) ?r2x9
        case y2x9 => as_aux_lemma => intro wx hSx; (try dsimp only at hSx); go_simp; try with_reducible rfl
        try simp only [Act.put, List.setIfInBounds_toArray, List.set_cons_zero, List.set_cons_succ]
        refine wpSched_take (i := 11) (v := ?v2x10) (by as_aux_lemma => rw [HO2.out]; simp only [List.getElem?_toArray, List.getElem?_cons_succ, List.getElem?_cons_zero]; rfl) (Or.inl ⟨(by rfl), ?y2x10⟩) ?r2x10
        case y2x10 => as_aux_lemma => intro wx hSx; (try dsimp only at hSx); go_simp; try with_reducible rfl
        try simp only [Act.put, List.setIfInBounds_toArray, List.set_cons_zero, List.set_cons_succ]
        refine wpSched_end (NoPanic.normal ?_)
        clear HO2 O2
        go_wp2_with fail
        go_roundw
        case rel => exact ⟨i + 1, by omega, by go_num, hU.trans (U45.trans V7)⟩
        case measure => simp [intOf]; omega
      · have t1 : decide ((i : Int) < (N : Int)) = false := by simp; omega
        have t2 : decide (i < N) = false := by simp; omega
        go_wp2_with fail
        refine (awake02_any _).mono ?_
        rintro e w9 ⟨rfl, U9⟩
        go_wp2_with fail
        go_ret
        exact ⟨rfl, V2.trans (hU.trans U9)⟩
end Go.Proofs.Ytkngegcfdabpoaa
