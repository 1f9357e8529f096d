/-
  The document's Mul.
-/
import Derived.Test.YtkngegcfdabpoaaLMulV
import Derived.Test.YtkngegcfdabpoaaLDiff
import Derived.Test.YtkngegcfdabpoaaLAt
import Derived.Test.YtkngegcfdabpoaaLCanR
import Derived.Test.YtkngegcfdabpoaaPA
namespace Go.Proofs.Ytkngegcfdabpoaa
open Go.RowKit

/-- The values of the product at 0, 1, .. -/
def prVals (P Q : List Rat) (k : Nat) : List Rat := (List.range k).map (fun i => pat P ((i : Nat) : Rat) * pat Q ((i : Nat) : Rat))
theorem prVals_len (P Q : List Rat) (k : Nat) : (prVals P Q k).length = k := by simp [prVals]
theorem prVals_snoc (P Q : List Rat) (k : Nat) : prVals P Q (k + 1) = prVals P Q k ++ [pat P (k : Rat) * pat Q (k : Rat)] := by simp [prVals, List.range_succ]
theorem newton_cut' (q l : List Rat) (hl : q.length ≤ l.length) (h : ∀ i, i < l.length → l.getD i 0 = pat q (i : Rat)) : cutL (newton l.length (fun i => l.getD i 0)) = cutL q := by
  apply cutL_ext
  intro k
  by_cases hk : k < l.length
  · exact newton_of l.length (fun k => q.getD k 0) _ (fun i hi => by rw [h i hi]; exact pat_more q _ hl) k hk
  · rw [newton_getD, if_neg hk, getD_len (by omega)]
theorem prVals_cut (P Q : List Rat) : cutL (newton (prVals P Q (P.length + Q.length - 1)).length (fun i => (prVals P Q (P.length + Q.length - 1)).getD i 0)) = cutL (pmul P Q) :=
  newton_cut' (pmul P Q) (prVals P Q (P.length + Q.length - 1)) (by rw [prVals_len, pmul_len]; exact Nat.le_refl _) (fun i hi => by
    rw [prVals_len] at hi
    rw [pmul_pat, prVals, range_getD, if_pos hi])
theorem prVals_mem {P Q : List Rat} {C : Nat} (h1 : ∀ i : Nat, i ≤ 70 → qs (pat P (i : Rat)) ≤ C) (h2 : ∀ i : Nat, i ≤ 70 → qs (pat Q (i : Rat)) ≤ C) {k : Nat} (hk : k ≤ 70) : ∀ q ∈ prVals P Q k, XB none q (C + C) := fun q hq => by
  simp only [prVals, List.mem_map, List.mem_range] at hq
  obtain ⟨i, hi, rfl⟩ := hq
  exact Nat.le_trans (qs_mul _ _) (Nat.add_le_add (h1 i (by omega)) (h2 i (by omega)))

set_option maxRecDepth 100000 in
set_option maxHeartbeats 6400000 in
theorem rMulL_q {o1 o2 : Option Nat} {A1 A2 : Option Addr} {c1 c2 : Nat} {ps rs : List Rat} {B : Nat} {w : World} (h1 : RX o1 w A1 ps) (h2 : RX o2 w A2 rs) (hB1 : ∀ q ∈ ps, XB o1 q B) (hB2 : ∀ q ∈ rs, XB o2 q B) (hB : 2 ≤ B) (hB' : B ≤ 900) (hl1 : ps.length ≤ 1000) (hl2 : rs.length ≤ 1000) :
    Calls Try.prog 25 #[.slice A1 ps.length c1, .slice A2 rs.length c2] w (RetLB w (mulV ps rs) (mulB ps rs)) := by
  have HNO := @mul_no ps rs
  by_cases hyes : ps.length ≤ 33 ∧ rs.length ≤ 33
  · have hq1 := h1.qs hB1
    have hq2 := h2.qs hB2
    have hm1 := cutL_mem hq1 (by omega)
    have hm2 := cutL_mem hq2 (by omega)
    have hl3 := cutL_len ps
    have hl4 := cutL_len rs
    have HC1 := Lib.hid (rCanon_q (cap := c1) h1 hB1 (by omega) hl1)
    have HC2 := Lib.hid (fun wx (u : Up w wx) => rCanon_q (cap := c2) (h2.up u) hB2 (by omega) hl2)
    have HZ := @mul_zero' ps rs hyes
    have HG := @mul_big ps rs hyes
    have HY := @mul_yes ps rs hyes
    obtain ⟨h33, h33'⟩ := hyes
    have t0 : decide (33 < ps.length) = false := by simp; omega
    have t0i : decide ((33 : Int) < (ps.length : Int)) = false := by simp; omega
    have t1 : decide (33 < rs.length) = false := by simp; omega
    have t1i : decide ((33 : Int) < (rs.length : Int)) = false := by simp; omega
    have hl5 : (cutL ps).length ≤ 33 := by omega
    have hl6 : (cutL rs).length ≤ 33 := by omega
    obtain ⟨P, hP⟩ : ∃ P, P = cutL ps := ⟨_, rfl⟩
    obtain ⟨Q, hQ⟩ : ∃ P, P = cutL rs := ⟨_, rfl⟩
    rw [← hP] at hm1 HC1 HZ HG HY hl5
    rw [← hQ] at hm2 HC2 HZ HG HY hl6
    have HM1 := Lib.hid hm1
    have HM2 := Lib.hid hm2
    replace HZ := Lib.hid HZ
    replace HG := Lib.hid HG
    replace HY := Lib.hid HY
    clear h1 h2 hB1 hB2 hq1 hq2 HNO hm1 hm2 hl3 hl4 hP hQ
    go_enter Try.func25, Try.ntmps25
    go_wp2_with fail
    refine HC1.out.mono ?_
    rintro e w1 ⟨A3, c3, rfl, _, _, hO1, U1⟩
    have HP1 := Lib.hid hO1
    clear hO1
    go_wp2_with fail
    refine (HC2.out _ U1).mono ?_
    rintro e w2 ⟨A4, c4, rfl, _, _, hO2, U2⟩
    have HP2 := Lib.hid hO2
    have HP1 := Lib.hid (HP1.out.up U2)
    have V2 := U1.trans U2
    clear hO2 U1 U2
    obtain ⟨lp, hlp⟩ : ∃ l, l = P.length := ⟨_, rfl⟩
    obtain ⟨lq, hlq⟩ : ∃ l, l = Q.length := ⟨_, rfl⟩
    have HLP := Lib.hid hlp
    have HLQ := Lib.hid hlq
    rw [← hlp] at hl5 HZ HG HY ⊢
    rw [← hlq] at hl6 HZ HG HY ⊢
    clear hlp hlq
    by_cases z1 : lp = 0
    · have y1 : (lp == 0) = true := by simp [z1]
      have y1i : ((lp : Int) == 0) = true := by simp [z1]
      have HZZ := Lib.hid (HZ.out (.inl z1))
      clear z1
      go_wp2_with fail
      go_ret2
      exact ⟨none, 0, by rw [HZZ.out.1, HZZ.out.2]; rfl, by rw [HZZ.out.1]; exact Nat.le_refl _, by omega, by rw [HZZ.out.1]; exact RX.nil_, V2⟩
    by_cases z2 : lq = 0
    · have y1 : (lp == 0) = false := by simp [z1]
      have y1i : ((lp : Int) == 0) = false := by simp; omega
      have y2 : (lq == 0) = true := by simp [z2]
      have y2i : ((lq : Int) == 0) = true := by simp [z2]
      have HZZ := Lib.hid (HZ.out (.inr z2))
      clear z1 z2
      go_wp2_with fail
      go_ret2
      exact ⟨none, 0, by rw [HZZ.out.1, HZZ.out.2]; rfl, by rw [HZZ.out.1]; exact Nat.le_refl _, by omega, by rw [HZZ.out.1]; exact RX.nil_, V2⟩
    have y1 : (lp == 0) = false := by simp [z1]
    have y1i : ((lp : Int) == 0) = false := by simp; omega
    have y2 : (lq == 0) = false := by simp [z2]
    have y2i : ((lq : Int) == 0) = false := by simp; omega
    by_cases z3 : lp + lq ≤ 34
    · have y3 : decide (34 < lp + lq) = false := by simp; omega
      have y3i : decide ((34 : Int) < (lp : Int) + (lq : Int)) = false := by simp; omega
      have HYY := Lib.hid (HY.out (by omega) z3)
      have HBPA := Lib.hid (fun (i : Nat) (hi : i ≤ 70) => show qs (pat P (i : Rat)) ≤ 64 * (B + 1 + 388) + 3 from by rw [← Rat.intCast_natCast]; exact qs_pat P (B + 1) HM1.out (by omega) (i : Int) (by omega) (by omega) (by rw [← HLP.out]; omega))
      have HBQA := Lib.hid (fun (i : Nat) (hi : i ≤ 70) => show qs (pat Q (i : Rat)) ≤ 64 * (B + 1 + 388) + 3 from by rw [← Rat.intCast_natCast]; exact qs_pat Q (B + 1) HM2.out (by omega) (i : Int) (by omega) (by omega) (by rw [← HLQ.out]; omega))
      have hlp1 : 1 ≤ lp := by omega
      have hlq1 : 1 ≤ lq := by omega
      have hpq : lp + lq ≤ 34 := z3
      clear z1 z2 z3
      go_wp2_with fail
      go_loopw [6, 7] (fun v iv wr => ∃ k : Nat, k ≤ lp + lq - 1 ∧ iv = .int .i64 k ∧ Hid (AX none wr w2.heap.size v (prVals P Q k)) ∧ Up w2 wr) (fun _ iv _ => lp + lq - 1 - (intOf iv).toNat)
      case atStart => exact ⟨0, Nat.zero_le _, rfl, Lib.hid AX.nil_, Up.refl _⟩
      case round =>
        obtain ⟨k, hk, rfl, HA, hU⟩ := hrel
        by_cases hkn : k < lp + lq - 1
        · have t2 : decide ((k : Int) < (lp : Int) + (lq : Int) - 1) = true := by simp; omega
          have HT := Lib.hid (prVals_snoc P Q k)
          have HBP := Lib.hid (HBPA.out k (by omega))
          have HBQ := Lib.hid (HBQA.out k (by omega))
          have HF := Lib.hid (rFromInt_q (w := wr) (k : Int) (by omega) (by omega))
          rw [Rat.intCast_natCast] at HF
          obtain ⟨x, hx⟩ : ∃ x : Rat, x = (k : Rat) := ⟨_, rfl⟩
          have HQX := Lib.hid (show qs x ≤ 3 by rw [hx, ← Rat.intCast_natCast]; exact qs_int _ (by omega) (by omega))
          rw [← hx] at HT HBP HBQ HF
          have HLN := Lib.hid (show (prVals P Q k).length + [pat P x * pat Q x].length ≤ 1000000 by rw [prVals_len]; simp; omega)
          have i1 : (0 : Int) ≤ k := by omega
          have i2 : (k : Int) < (lp : Int) + (lq : Int) - 1 := by omega
          clear hx
          go_wp2_with fail
          refine HF.out.mono ?_
          rintro e w3 ⟨v3, rfl, hQ3, U3⟩
          obtain ⟨sy, Ay, ny, cy, By, my, dy, rfl⟩ := hQ3.shape
          have HQ3 := Lib.hid hQ3
          clear hQ3
          go_wp2_with fail
          obtain ⟨w4, hw4⟩ : ∃ w4, w4 = w3.alloc (Obj.cells #[.bool sy, .slice Ay ny cy, .slice By my dy] 31) := ⟨_, rfl⟩
          have U4 : Up w3 w4 := by rw [hw4]; exact (Below.refl _ _).alloc (Nat.le_refl _) _
          have by4 : Blk w4 w3.heap.size 31 #[.bool sy, .slice Ay ny cy, .slice By my dy] := by rw [hw4]; exact Blk.new' _ _ _ rfl
          rw [← hw4]
          obtain ⟨gy, hgy⟩ : ∃ g, g = w3.heap.size := ⟨_, rfl⟩
          have hsz3 := U3.size
          have HNB := Lib.hid (show ∀ o, some (Addr.mk gy o none).block ≠ _ from fun _ e => by have h := (HA.out.own_lt _ e.symm).2; dsimp only at h; omega)
          rw [← hgy] at by4 ⊢
          have U24 := U3.trans U4
          have HAP := Lib.hid (fun wx (u : Up w4 wx) => at_q (cap := c3) (B := B + 1) ((HP1.out.up hU).up (U24.trans u)) HM1.out (by omega) (by omega) (by rw [← HLP.out]; omega) ((HQ3.out.up (U4.trans u)).iv (B := 3) HQX.out) (by omega))
          have HAQ := Lib.hid (fun wx (u : Up w4 wx) => at_q (cap := c4) (B := B + 1) ((HP2.out.up hU).up (U24.trans u)) HM2.out (by omega) (by omega) (by rw [← HLQ.out]; omega) ((HQ3.out.up (U4.trans u)).iv (B := 3) HQX.out) (by omega))
          rw [← HLP.out] at HAP
          rw [← HLQ.out] at HAQ
          have HE : Hid (∀ W : World, Up w4 W → (W.cell? ⟨gy, 0, none⟩ = some (.bool sy) ∧ W.cell? ⟨gy, 1, none⟩ = some (.slice Ay ny cy) ∧ W.cell? ⟨gy, 2, none⟩ = some (.slice By my dy))) := Lib.hid fun W hW => tri (by4.up hW)
          clear hw4 hgy hsz3
          go_wp2_with fail
          refine wp_region_noPanic ?_
          refine wp_region_sched (S := (fun wx => (wx.cell? ⟨gy, 0, none⟩ = some (.bool sy) ∧ wx.cell? ⟨gy, 1, none⟩ = some (.slice Ay ny cy) ∧ wx.cell? ⟨gy, 2, none⟩ = some (.slice By my dy)))) [(0, false), (1, false), (2, false), (4, false), (5, false), (3, true), (6, true), (7, true), (8, true), (9, true), (10, false)] (by kernel_rfl) (by as_aux_lemma => kernel_rfl) (by as_aux_lemma => kernel_rfl) (by as_aux_lemma => kernel_rfl) (fun _ _ _ _ _ h => h) (HE.out _ (Up.refl w4).drew) ?_
          intro O5 HO5
          refine wpSched_take (i := 0) (v := ?v5x1) (by as_aux_lemma => rw [HO5.out]; simp only [List.getElem?_toArray, List.getElem?_cons_zero]; rfl) (Or.inl ⟨(by rfl), ?y5x1⟩) ?r5x1
          case y5x1 => as_aux_lemma => intro wx hSx; (try dsimp only at hSx); go_simp; try with_reducible rfl
          try simp only [Act.put, List.setIfInBounds_toArray, List.set_cons_zero, List.set_cons_succ]
          refine wpSched_take (i := 1) (v := ?v5x2) (by as_aux_lemma => rw [HO5.out]; simp only [List.getElem?_toArray, List.getElem?_cons_succ, List.getElem?_cons_zero]; rfl) (Or.inl ⟨(by rfl), ?y5x2⟩) ?r5x2
          case y5x2 => as_aux_lemma => intro wx hSx; (try dsimp only at hSx); go_simp; try with_reducible rfl
          try simp only [Act.put, List.setIfInBounds_toArray, List.set_cons_zero, List.set_cons_succ]
          refine wpSched_take (i := 2) (v := ?v5x3) (by as_aux_lemma => rw [HO5.out]; simp only [List.getElem?_toArray, List.getElem?_cons_succ, List.getElem?_cons_zero]; rfl) (Or.inl ⟨(by rfl), ?y5x3⟩) ?r5x3
          case y5x3 => as_aux_lemma => intro wx hSx; (try dsimp only at hSx); go_simp; try with_reducible rfl
          try simp only [Act.put, List.setIfInBounds_toArray, List.set_cons_zero, List.set_cons_succ]
          refine wpSched_take (i := 4) (v := ?v5x4) (by as_aux_lemma => rw [HO5.out]; simp only [List.getElem?_toArray, List.getElem?_cons_succ, List.getElem?_cons_zero]; rfl) (Or.inl ⟨(by rfl), ?y5x4⟩) ?r5x4
          case y5x4 => as_aux_lemma => intro wx hSx; (try dsimp only at hSx); go_simp; try with_reducible rfl
          try simp only [Act.put, List.setIfInBounds_toArray, List.set_cons_zero, List.set_cons_succ]
          refine wpSched_take (i := 5) (v := ?v5x5) (by as_aux_lemma => rw [HO5.out]; simp only [List.getElem?_toArray, List.getElem?_cons_succ, List.getElem?_cons_zero]; rfl) (Or.inl ⟨(by rfl), ?y5x5⟩) ?r5x5
          case y5x5 => as_aux_lemma => intro wx hSx; (try dsimp only at hSx); go_simp; try with_reducible rfl
          try simp only [Act.put, List.setIfInBounds_toArray, List.set_cons_zero, List.set_cons_succ]
          refine wpSched_call (i := 3) (by as_aux_lemma => rw [HO5.out]; simp only [List.getElem?_toArray, List.getElem?_cons_succ, List.getElem?_cons_zero]; rfl) (by rfl) (fun K' hK => ?_)
          go_simp
          refine (HAP.out _ (Up.refl w4).drew).mono ?_
          rintro e w6 ⟨v6, rfl, hQ6, U6⟩
          obtain ⟨s6, A6, n6, c6, B6, m6, d6, rfl⟩ := hQ6.shape
          have HQ6 := Lib.hid hQ6
          have V6 : Up w4 w6 := Up.trans (Up.refl w4).drew U6
          have kk6 := HE.out _ V6
          clear hQ6
          go_wp2_with fail
          refine hK.out _ _ kk6 (fun _ => ?_)
          clear hK K'
          try simp only [Act.put, List.setIfInBounds_toArray, List.set_cons_zero, List.set_cons_succ]
          refine wpSched_call (i := 6) (by as_aux_lemma => rw [HO5.out]; simp only [List.getElem?_toArray, List.getElem?_cons_succ, List.getElem?_cons_zero]; rfl) (by rfl) (fun K' hK => ?_)
          go_simp
          refine (HAQ.out _ V6).mono ?_
          rintro e w7 ⟨v7, rfl, hQ7, U7⟩
          obtain ⟨s7, A7, n7, c7, B7, m7, d7, rfl⟩ := hQ7.shape
          have HQ7 := Lib.hid hQ7
          have V7 : Up w4 w7 := Up.trans V6 U7
          have kk7 := HE.out _ V7
          clear hQ7
          go_wp2_with fail
          refine hK.out _ _ kk7 (fun _ => ?_)
          clear hK K'
          try simp only [Act.put, List.setIfInBounds_toArray, List.set_cons_zero, List.set_cons_succ]
          refine wpSched_call (i := 7) (by as_aux_lemma => rw [HO5.out]; simp only [List.getElem?_toArray, List.getElem?_cons_succ, List.getElem?_cons_zero]; rfl) (by rfl) (fun K' hK => ?_)
          go_simp
          refine (rMul_q ((HQ6.out.up U7).iv HBP.out) (HQ7.out.iv HBQ.out) (by omega)).mono ?_
          rintro e w8 ⟨v8, rfl, hQ8, U8⟩
          obtain ⟨s8, A8, n8, c8, B8, m8, d8, rfl⟩ := hQ8.shape
          have HQ8 := Lib.hid hQ8
          have V8 : Up w4 w8 := Up.trans V7 U8
          have kk8 := HE.out _ V8
          clear hQ8
          have HR9 := Lib.hid (RX.one (m := none) (Blk.new w8 31 #[.bool s8, .slice A8 n8 c8, .slice B8 m8 d8]) (HQ8.out.up (Below.alloc (Up.refl w8) (Nat.le_refl _) _)))
          have V9 : Up w4 (w8.alloc (Obj.cells #[.bool s8, .slice A8 n8 c8, .slice B8 m8 d8] 31)) := V8.trans (Below.alloc (Up.refl w8) (Nat.le_refl _) _)
          have kk9 := HE.out _ V9
          have HA9 := Lib.hid (HA.out.up (U24.trans V9))
          have hV9 := hU.trans (U24.trans V9)
          have hs9 := hV9.size
          go_wp2_with fail
          refine hK.out _ _ kk8 (fun _ => ?_)
          clear hK K'
          try simp only [Act.put, List.setIfInBounds_toArray, List.set_cons_zero, List.set_cons_succ]
          refine wpSched_call (i := 8) (by as_aux_lemma => rw [HO5.out]; simp only [List.getElem?_toArray, List.getElem?_cons_succ, List.getElem?_cons_zero]; rfl) (by rfl) (fun K' hK => ?_)
          go_simp
          go_wp2_with fail
          refine hK.out _ _ kk9 (fun _ => ?_)
          clear hK K'
          try simp only [Act.put, List.setIfInBounds_toArray, List.set_cons_zero, List.set_cons_succ]
          refine wpSched_call (i := 9) (by as_aux_lemma => rw [HO5.out]; simp only [List.getElem?_toArray, List.getElem?_cons_succ, List.getElem?_cons_zero]; rfl) (by rfl) (fun K' hK => ?_)
          refine oper_append_rats _ _ rfl rfl HA9.out rfl rfl HR9.out (fun h => by cases h) HLN.out hs9 ?_
          intro v10 w10 h10
          have kk10 := And.intro (h10.grown.cell kk9.1 (HNB.out 0)) (And.intro (h10.grown.cell kk9.2.1 (HNB.out 0)) (h10.grown.cell kk9.2.2 (HNB.out 0)))
          go_wp2_with fail
          refine hK.out _ _ kk10 (fun _ => ?_)
          clear hK K'
          try simp only [Act.put, List.setIfInBounds_toArray, List.set_cons_zero, List.set_cons_succ]
          refine wpSched_take (i := 10) (v := ?v5x6) (by as_aux_lemma => rw [HO5.out]; simp only [List.getElem?_toArray, List.getElem?_cons_succ, List.getElem?_cons_zero]; rfl) (Or.inl ⟨(by rfl), ?y5x6⟩) ?r5x6
          case y5x6 => as_aux_lemma => intro wx hSx; (try dsimp only at hSx); go_simp; try with_reducible rfl
          try simp only [Act.put, List.setIfInBounds_toArray, List.set_cons_zero, List.set_cons_succ]
          refine wpSched_end (NoPanic.normal ?_)
          clear HO5 O5
          have hA10 := h10.own
          rw [← HT.out] at hA10
          have HA10 := Lib.hid hA10
          have hV10 : Up w2 w10 := h10.below hV9 HA9.out hs9
          clear hA10 h10 kk10 kk9
          go_wp2_with fail
          go_roundw
          case rel => exact ⟨k + 1, by omega, by go_num, HA10, hV10⟩
          case measure => simp [intOf]; omega
        · have t2 : decide ((k : Int) < (lp : Int) + (lq : Int) - 1) = false := by simp; omega
          have hnl : k ≤ 64 := by omega
          have hk2 : k = P.length + Q.length - 1 := by rw [← HLP.out, ← HLQ.out]; omega
          have hA := HA.out
          obtain ⟨A9, c9, rfl, _, _, hr9⟩ := hA.rx
          have hnc : A9 = none → c9 = 0 := by
            obtain ⟨vs, ⟨_, hv⟩, _⟩ := hA
            intro e
            subst e
            rcases hv with ⟨hv, _⟩ | ⟨g, cp, cr, hv, _⟩
            · injection hv
            · injection hv with hv; cases hv
          have HD := differences_q (cap := c9) (B := 64 * (B + 1 + 388) + 3 + (64 * (B + 1 + 388) + 3)) hr9 (prVals_mem HBPA.out HBQA.out (by omega)) (by omega) (by rw [prVals_len]; exact hnl) hnc
          have HDC := Lib.hid (show cutL (newton (prVals P Q k).length (fun i => (prVals P Q k).getD i 0)) = mulV ps rs by rw [HYY.out.1, hk2]; exact prVals_cut P Q)
          replace HD := Lib.hid HD
          clear hA hr9 hnc HA hk2 hnl
          go_wp2_with fail
          refine HD.out.mono ?_
          rw [HDC.out]
          rintro e w11 ⟨A11, c11, rfl, h1, h2, h3, h4⟩
          have H9 := Lib.hid (And.intro h1 (And.intro h2 h3))
          clear h1 h2 h3
          go_wp2_with fail
          go_ret2
          exact ⟨A11, c11, by rw [HYY.out.2]; rfl, H9.out.1, H9.out.2.1, H9.out.2.2, V2.trans (hU.trans h4)⟩
    · have y3 : decide (34 < lp + lq) = true := by simp; omega
      have y3i : decide ((34 : Int) < (lp : Int) + (lq : Int)) = true := by simp; omega
      have HGG := Lib.hid (HG.out (by omega) z3)
      go_wp2_with fail
      go_ret2
      exact ⟨none, 0, by rw [HGG.out.1, HGG.out.2]; rfl, by rw [HGG.out.1]; exact Nat.le_refl _, by omega, by rw [HGG.out.1]; exact RX.nil_, V2⟩
  · have HP := Lib.hid (HNO hyes)
    by_cases h33 : 33 < ps.length
    · have t1 : decide (33 < ps.length) = true := by simp; omega
      have t1i : decide ((33 : Int) < (ps.length : Int)) = true := by simp; omega
      clear hyes h1 h2 hB1 hB2
      go_enter Try.func25, Try.ntmps25
      go_wp2_with fail
      go_ret2
      exact ⟨none, 0, by rw [HP.out.1, HP.out.2]; rfl, by rw [HP.out.1]; exact Nat.le_refl _, by omega, by rw [HP.out.1]; exact RX.nil_, Up.refl _⟩
    · have t0 : decide (33 < ps.length) = false := by simpa using h33
      have t0i : decide ((33 : Int) < (ps.length : Int)) = false := by simp; omega
      have t2 : decide (33 < rs.length) = true := by simp; omega
      have t2i : decide ((33 : Int) < (rs.length : Int)) = true := by simp; omega
      clear hyes h1 h2 hB1 hB2
      go_enter Try.func25, Try.ntmps25
      go_wp2_with fail
      go_ret2
      exact ⟨none, 0, by rw [HP.out.1, HP.out.2]; rfl, by rw [HP.out.1]; exact Nat.le_refl _, by omega, by rw [HP.out.1]; exact RX.nil_, Up.refl _⟩
end Go.Proofs.Ytkngegcfdabpoaa
