/-
  binomial.Differences.
-/
import Derived.Test.YtkngegcfdabpoaaLComb
import Derived.Test.YtkngegcfdabpoaaLDiff
import Derived.Test.YtkngegcfdabpoaaLAt
import Derived.Test.YtkngegcfdabpoaaPD
import Derived.Test.YtkngegcfdabpoaaPA
namespace Go.Proofs.Ytkngegcfdabpoaa
open Go.RowKit

/-- What Differences answers. -/
def diffB (ps : List Rat) : Bool := decide (ps.length ≤ 33)
def diffV (ps : List Rat) : List Rat := if ps.length ≤ 33 then cutL (newton ps.length (fun i => ps.getD i 0)) else []
theorem diff_no {ps : List Rat} (h : ¬ ps.length ≤ 33) : diffV ps = [] ∧ diffB ps = false := by
  unfold diffV diffB; rw [if_neg h]; exact ⟨rfl, by simpa using h⟩
theorem diff_yes {ps : List Rat} (h : ps.length ≤ 33) : diffV ps = cutL (newton ps.length (fun i => ps.getD i 0)) ∧ diffB ps = true := by
  unfold diffV diffB; rw [if_pos h]; exact ⟨rfl, by simpa using h⟩
theorem diffV_mem {ps : List Rat} {B : Nat} (h : ∀ q ∈ ps, qs q ≤ B) (hB : 3 ≤ B) : ∀ q ∈ diffV ps, qs q ≤ dB B := fun q hq => by
  unfold diffV at hq
  split at hq
  · exact cutL_mem (newton_mem h (by omega) (by omega)) (by unfold dB; omega) q hq
  · simp at hq
theorem diffV_len (ps : List Rat) : (diffV ps).length ≤ ps.length := by
  unfold diffV
  split
  · have := cutL_len (newton ps.length (fun i => ps.getD i 0)); rw [newton_len] at this; exact this
  · simp
/-- out, filled up to k. -/
def outL (ps : List Rat) (k : Nat) : List Rat := (List.range ps.length).map (fun i => if i < k then dk (fun i => ps.getD i 0) i 0 else 0)
theorem outL_len (ps : List Rat) (k : Nat) : (outL ps k).length = ps.length := by simp [outL]
theorem outL_start (ps : List Rat) : List.replicate ps.length 0 = outL ps 0 := by
  rw [zeros_map]
  exact map_congr' fun i _ => by rw [if_neg (by omega)]
theorem outL_step (ps : List Rat) (k : Nat) : (outL ps k).set k (dk (fun i => ps.getD i 0) k 0) = outL ps (k + 1) := by
  unfold outL
  rw [map_set]
  refine map_congr' fun i _ => ?_
  by_cases e : i = k
  · subst e; rw [if_pos rfl, if_pos (by omega)]
  · rw [if_neg e]
    by_cases h : i < k
    · rw [if_pos h, if_pos (by omega)]
    · rw [if_neg h, if_neg (by omega)]
theorem outL_end (ps : List Rat) : outL ps ps.length = newton ps.length (fun i => ps.getD i 0) := by
  unfold outL newton
  exact map_congr' fun i hi => by rw [if_pos hi]
theorem comb_row (ps : List Rat) (r K : Nat) : combL (fun x y => x - y) ((dRow ps r (K + 1)).drop 1) ((dRow ps r (K + 1)).take K) = dRow ps (r + 1) K := by
  unfold combL
  rw [List.length_drop, List.length_take, dRow_len, show max (K + 1 - 1) (min K (K + 1)) = K by omega]
  refine map_congr' fun i hi => ?_
  have e1 : ((dRow ps r (K + 1)).drop 1).getD i 0 = (dRow ps r (K + 1)).getD (i + 1) 0 := by simp [Nat.add_comm]
  have e2 : ((dRow ps r (K + 1)).take K).getD i 0 = (dRow ps r (K + 1)).getD i 0 := by simp [List.getElem?_take, hi]
  rw [e1, e2]
  exact dRow_step ps r i (K + 1) (by omega)

set_option maxRecDepth 100000 in
set_option maxHeartbeats 6400000 in
theorem diffs_q {o : Option Nat} {A : Option Addr} {cap : Nat} {ps : List Rat} {B : Nat} {w : World} (h : RX o w A ps) (hB : ∀ q ∈ ps, XB o q B) (hB' : B ≤ 20000000) (hl : ps.length ≤ 1000) (hc : A = none → cap = 0) :
    Calls Try.prog 10 #[.slice A ps.length cap] w (RetLB w (diffV ps) (diffB ps)) := by
  have HNO := @diff_no ps
  by_cases h33 : ps.length ≤ 33
  · have HP := Lib.hid (diff_yes h33)
    have hq := h.qs hB
    obtain ⟨C, hC⟩ : ∃ C, C = dB (B + 1) := ⟨_, rfl⟩
    have hCB : B ≤ C ∧ C ≤ 1400000000 := by rw [hC]; unfold dB; omega
    have HQD := Lib.hid (fun (r i : Nat) (hr : r ≤ 65) => show qs (dk (fun i => ps.getD i 0) r i) ≤ C from by rw [hC]; exact qs_dk ps (B + 1) hq (by omega) r i hr)
    have HR0 := Lib.hid ((h.iv hB).iv (B := C) (fun q _ => hCB.1))
    obtain ⟨hCB1, hCB2⟩ := hCB
    have HC := Lib.hid hc
    have HP0 := Lib.hid (dRow_zero ps)
    have HOS := Lib.hid (outL_start ps)
    obtain ⟨N, hN⟩ : ∃ L, L = ps.length := ⟨_, rfl⟩
    have HL := Lib.hid hN
    rw [← hN] at hl h33 HOS ⊢
    have HLN0 := Lib.hid (show ([] : List Rat).length + ps.length ≤ 1000000 by rw [← hN]; simp; omega)
    have t0 : decide (33 < N) = false := by simp; omega
    have t0i : decide ((33 : Int) < (N : Int)) = false := by simp; omega
    clear h hB hN hC hq hc HNO
    go_enter Try.func10, Try.ntmps10
    go_wp2_with (first
      | (at_builtin; refine wpList_append_rats rfl _ _ rfl rfl (AX.nil_ (o := some C) (w := w) (base := w.heap.size)) rfl HL.out HR0.out HC.out HLN0.out (Nat.le_refl _) ?_))
    intro v1 w1 h1
    have hA1 := h1.own
    have hU1 : Up w w1 := h1.below (Below.refl _ _) (AX.nil_ (o := some C)) (Nat.le_refl _)
    have HA1 := Lib.hid (show AX (some C) w1 w.heap.size v1 (dRow ps 0 N) by rw [HL.out, HP0.out]; simpa using hA1)
    clear hA1 h1 HC HP0 HLN0 HR0
    obtain ⟨A1, k1, rfl, hk1, hk2, hr1⟩ := HA1.out.rx
    rw [dRow_len] at hk1
    have HR1 := Lib.hid hr1
    have HK1 := Lib.hid (And.intro hk1 hk2)
    have HLR := Lib.hid (dRow_len ps 0 N)
    have HOW := Lib.hid (show ∀ a, A1 = some a → a.block < w1.heap.size from fun a e => (HA1.out.own_lt a.block (by rw [e]; rfl)).2)
    clear hr1 hk1 hk2 HA1
    go_wp2_with (first
      | (with_reducible refine wpList_makeR rfl _ _ rfl .i64 .i64 (N : Int) (N : Int) N rfl rfl rfl rfl (by omega) ?_))
    intro w2 hB2 U2
    have HO2 := Lib.hid (OX.of_zeros C hB2)
    rw [HOS.out] at HO2
    replace HR1 := Lib.hid (HR1.out.up U2)
    have hsz := hU1.size
    obtain ⟨g, hg⟩ : ∃ g, g = w1.heap.size := ⟨_, rfl⟩
    have hge : w.heap.size ≤ g := by omega
    have hV2 := hU1.trans U2
    rw [← hg] at HO2 HOW ⊢
    have HNE1 := Lib.hid (show ∀ a, A1 = some a → a.block ≠ g from fun a e => Nat.ne_of_lt (HOW.out a e))
    clear hB2 hg hsz HOS t0 t0i HOW
    go_wp2_with fail
    go_loopw [4, 17] (fun u iv wr => ∃ k K : Nat, ∃ A cc, Hid (k + K = N) ∧ iv = .int .i64 k ∧ u = .slice A K cc ∧ K ≤ cc ∧ cc ≤ 9223372036854775807 ∧ Hid (RX (some C) wr A (dRow ps k K) ∧ OX (some C) wr g (outL ps k) ∧ (∀ a, A = some a → a.block ≠ g)) ∧ Up w wr) (fun _ iv _ => N - (intOf iv).toNat)
    case atStart => exact ⟨0, N, A1, k1, Lib.hid (Nat.zero_add _), rfl, by rw [HLR.out], HK1.out.1, HK1.out.2, Lib.hid ⟨HR1.out, HO2.out, HNE1.out⟩, hV2⟩
    case round =>
      obtain ⟨k, K, A, cc, HK, rfl, rfl, hcc, hcm, HH, hU⟩ := hrel
      clear HR1 HO2 hV2 HK1
      have hkN : k ≤ 64 := by have := HK.out; omega
      by_cases hK : k < N
      · obtain ⟨K, rfl⟩ : ∃ K', K = K' + 1 := ⟨K - 1, by have := HK.out; omega⟩
        have hKK : K ≤ 64 := by have := HK.out; omega
        have t1 : decide ((k : Int) < (N : Int)) = true := by simp; omega
        have t2 : decide (k < N) = true := by simp; omega
        have i1 : (0 : Int) ≤ k := by omega
        have i2 : (k : Int) < N := by omega
        obtain ⟨hrow, hout, hne⟩ := HH.out
        obtain ⟨b, off, s, X, a, c, Y, m, d, rfl, hb, hx, c0, c1, c2⟩ := hrow.at_ (k := 0) (by rw [dRow_len]; omega)
        rw [dRow_getD _ _ _ _ (by omega)] at hx
        simp only [Nat.zero_mul, Nat.add_zero] at c0 c1 c2
        have hkl : k < (outL ps k).length := by rw [outL_len, ← HL.out]; exact hK
        obtain ⟨x1, x2, x3, x4, x5, x6, x7, _, k0, k1', k2⟩ := hout.at_ hkl
        have f0 := hout.frozen (k * 3)
        have f1 := hout.frozen (k * 3 + 1)
        have f2 := hout.frozen (k * 3 + 2)
        have hnz : 0 < K + 1 := by omega
        have HOUT := Lib.hid (hout.put hkl (o := some C) hx)
        rw [outL_step] at HOUT
        have HKP := Lib.hid (hout.kp_put (k * 3) (.bool s) (.slice X a c) (.slice Y m d))
        have hrow2 := hrow.far (hout.kp_put (k * 3) (.bool s) (.slice X a c) (.slice Y m d)) (put3_only wr g (k * 3) (.bool s) (.slice X a c) (.slice Y m d)) (fun a e _ => hne a e)
        have hd : RX (some C) (put3 wr g (k * 3) (.bool s) (.slice X a c) (.slice Y m d)) (if cc = 1 then some ⟨b, off, none⟩ else some ⟨b, off + 3, none⟩) ((dRow ps k (K + 1)).drop 1) := by
          by_cases h1 : cc = 1
          · have e : (dRow ps k (K + 1)).drop 1 = [] := List.drop_eq_nil_of_le (by rw [dRow_len]; omega)
            rw [e]; exact RX.nil_
          · rw [if_neg h1]
            have := hrow2.drop 1
            rwa [Nat.one_mul] at this
        obtain ⟨AI, hAI⟩ : ∃ AI, (if cc = 1 then some (Addr.mk b off none) else some ⟨b, off + 3, none⟩) = AI := ⟨_, rfl⟩
        rw [hAI] at hd
        have hk3 := hrow2.take K
        have HCM := Lib.hid (fun wx (u : Up (put3 wr g (k * 3) (.bool s) (.slice X a c) (.slice Y m d)) wx) => combine_q (c1 := cc - 1) (c2 := cc) 32 #[] (fun x y => x - y) (hd.up u) (hk3.up u) (by rw [List.length_drop, dRow_len]; omega) (by rw [List.length_take, dRow_len]; omega) (enters_own Try.func32 (by kernel_rfl) rfl) (fun wy va vb i _ _ ha hb => by
          rw [show #[va, vb] ++ #[] = #[va, vb] from by simp]
          exact sub_q ha hb (by omega)))
        rw [comb_row, List.length_drop, List.length_take, dRow_len, Nat.add_sub_cancel, show min K (K + 1) = K by omega] at HCM
        have UP := up_put hU hge (k * 3) (.bool s) (.slice X a c) (.slice Y m d)
        have HDM := Lib.hid (show ∀ q ∈ dRow ps (k + 1) K, XB none q C from fun q hq => by
          simp only [dRow, List.mem_map] at hq
          obtain ⟨i, _, rfl⟩ := hq
          exact HQD.out (k + 1) i (by omega))
        have q0 : (1 : Int) ≤ (K : Int) + 1 := by omega
        have q1 : (K : Int) ≤ cc := by omega
        have q2 : (0 : Int) ≤ (K : Int) := by omega
        have q1n : K ≤ cc := by omega
        have q3 : IntKind.i64.wrap (K : Int) = (K : Int) := IntWalk.i64_in _ (by omega)
        have gp : g < (put3 wr g (k * 3) (.bool s) (.slice X a c) (.slice Y m d)).heap.size := HOUT.out.lt
        clear hrow hout hx HH hkl hrow2 hd hk3 hne
        go_wp2_with fail
        rw [put3_eq]
        obtain ⟨wp, hwp⟩ : ∃ wp, wp = put3 wr g (k * 3) (.bool s) (.slice X a c) (.slice Y m d) := ⟨_, rfl⟩
        rw [← hwp] at HCM UP HOUT gp ⊢
        clear hwp HKP
        refine wp_region_noPanic ?_
        refine wp_region_sched (S := (fun _ => True)) [(0, false), (1, false), (2, false), (3, false), (4, false), (5, false), (6, false), (7, true), (8, false)] (by kernel_rfl) (by as_aux_lemma => kernel_rfl) (by as_aux_lemma => kernel_rfl) (by as_aux_lemma => kernel_rfl) (fun _ _ _ _ _ h => h) trivial ?_
        intro O1 HO1
        refine wpSched_take (i := 0) (v := ?v1x1) (by as_aux_lemma => rw [HO1.out]; simp only [List.getElem?_toArray, List.getElem?_cons_zero]; rfl) (Or.inl ⟨(by rfl), ?y1x1⟩) ?r1x1
        case y1x1 => as_aux_lemma => intro wx hSx; (try dsimp only at hSx); go_simp; try with_reducible rfl
        try simp only [Act.put, List.setIfInBounds_toArray, List.set_cons_zero, List.set_cons_succ]
        refine wpSched_take (i := 1) (v := ?v1x2) (by as_aux_lemma => rw [HO1.out]; simp only [List.getElem?_toArray, List.getElem?_cons_succ, List.getElem?_cons_zero]; rfl) (Or.inl ⟨(by rfl), ?y1x2⟩) ?r1x2
        case y1x2 => as_aux_lemma => intro wx hSx; (try dsimp only at hSx); go_simp; try with_reducible rfl
        try simp only [Act.put, List.setIfInBounds_toArray, List.set_cons_zero, List.set_cons_succ]
        refine wpSched_take (i := 2) (v := ?v1x3) (by as_aux_lemma => rw [HO1.out]; simp only [List.getElem?_toArray, List.getElem?_cons_succ, List.getElem?_cons_zero]; rfl) (Or.inl ⟨(by rfl), ?y1x3⟩) ?r1x3
        case y1x3 => as_aux_lemma => intro wx hSx; (try dsimp only at hSx); go_simp; try with_reducible rfl
        try simp only [Act.put, List.setIfInBounds_toArray, List.set_cons_zero, List.set_cons_succ]
        refine wpSched_take (i := 3) (v := ?v1x4) (by as_aux_lemma => rw [HO1.out]; simp only [List.getElem?_toArray, List.getElem?_cons_succ, List.getElem?_cons_zero]; rfl) (Or.inl ⟨(by rfl), ?y1x4⟩) ?r1x4
        case y1x4 => as_aux_lemma => intro wx hSx; (try dsimp only at hSx); go_simp; try with_reducible rfl
        try simp only [Act.put, List.setIfInBounds_toArray, List.set_cons_zero, List.set_cons_succ]
        refine wpSched_take (i := 4) (v := ?v1x5) (by as_aux_lemma => rw [HO1.out]; simp only [List.getElem?_toArray, List.getElem?_cons_succ, List.getElem?_cons_zero]; rfl) (Or.inl ⟨(by rfl), ?y1x5⟩) ?r1x5
        case y1x5 => as_aux_lemma => intro wx hSx; (try dsimp only at hSx); go_simp; try with_reducible rfl
        try simp only [Act.put, List.setIfInBounds_toArray, List.set_cons_zero, List.set_cons_succ]
        refine wpSched_take (i := 5) (v := ?v1x6) (by as_aux_lemma => rw [HO1.out]; simp only [List.getElem?_toArray, List.getElem?_cons_succ, List.getElem?_cons_zero]; rfl) (Or.inl ⟨(by rfl), ?y1x6⟩) ?r1x6
        case y1x6 => as_aux_lemma => intro wx hSx; (try dsimp only at hSx); go_simp; try with_reducible rfl
        try simp only [Act.put, List.setIfInBounds_toArray, List.set_cons_zero, List.set_cons_succ]
        refine wpSched_take (i := 6) (v := ?v1x7) (by as_aux_lemma => rw [HO1.out]; simp only [List.getElem?_toArray, List.getElem?_cons_succ, List.getElem?_cons_zero]; rfl) (Or.inl ⟨(by rfl), ?y1x7⟩) ?r1x7
        case y1x7 => as_aux_lemma => intro wx hSx; (try dsimp only at hSx); go_simp; try with_reducible rfl
        try simp only [Act.put, List.setIfInBounds_toArray, List.set_cons_zero, List.set_cons_succ]
        refine wpSched_call (i := 7) (by as_aux_lemma => rw [HO1.out]; simp only [List.getElem?_toArray, List.getElem?_cons_succ, List.getElem?_cons_zero]; rfl) (by rfl) (fun K' hK => ?_)
        go_simp
        refine (HCM.out _ (Up.refl wp).drew).mono ?_
        rintro e w7 ⟨g7, rfl, hg7, hO7, U7⟩
        have V7 : Up wp w7 := Up.trans (Up.refl wp).drew U7
        have hg7b : wp.heap.size ≤ g7 := hg7
        go_wp2_with fail
        refine hK.out _ _ trivial (fun _ => ?_)
        clear hK K'
        try simp only [Act.put, List.setIfInBounds_toArray, List.set_cons_zero, List.set_cons_succ]
        refine wpSched_take (i := 8) (v := ?v1x8) (by as_aux_lemma => rw [HO1.out]; simp only [List.getElem?_toArray, List.getElem?_cons_succ, List.getElem?_cons_zero]; rfl) (Or.inl ⟨(by rfl), ?y1x8⟩) ?r1x8
        case y1x8 => as_aux_lemma => intro wx hSx; (try dsimp only at hSx); go_simp; try with_reducible rfl
        try simp only [Act.put, List.setIfInBounds_toArray, List.set_cons_zero, List.set_cons_succ]
        refine wpSched_end (NoPanic.normal ?_)
        clear HO1 O1
        clear q3 hAI
        have HOUT7 := Lib.hid (HOUT.out.up V7)
        have HRW7 := Lib.hid (hO7.rx.iv HDM.out)
        have HLK := Lib.hid (dRow_len ps (k + 1) K)
        have HNE7 := Lib.hid (show ∀ a, some (Addr.mk g7 0 none) = some a → a.block ≠ g from fun a e => by injection e with e; subst e; show g7 ≠ g; omega)
        have HK7 := Lib.hid (show k + 1 + K = N by have := HK.out; omega)
        clear hO7 HOUT
        go_wp2_with fail
        go_roundw
        case rel => exact ⟨k + 1, K, some ⟨g7, 0, none⟩, K, HK7, by go_num, by rw [HLK.out], Nat.le_refl _, by omega, Lib.hid ⟨HRW7.out, HOUT7.out, HNE7.out⟩, UP.trans V7⟩
        case measure => simp [intOf]; omega
      · have t1 : decide ((k : Int) < (N : Int)) = false := by simp; omega
        have t2 : decide (k < N) = false := by simp; omega
        have hout := HH.out.2.1
        rw [show k = ps.length by have := HK.out; have := HL.out; omega, outL_end] at hout
        have HCN := bCanonical_q (B := C) (cap := N) hout.rx (fun q _ => Nat.le_refl _) (by omega) (by rw [newton_len, ← HL.out]; omega)
        rw [newton_len] at HCN
        have HLC := Lib.hid (cutL_len (newton N (fun i => ps.getD i 0)))
        have HLP := Lib.hid (newton_len N (fun i => ps.getD i 0))
        rw [← HL.out] at HP HCN
        obtain ⟨nl, hnl⟩ : ∃ l, l = newton N (fun i => ps.getD i 0) := ⟨_, rfl⟩
        rw [← hnl] at HP HCN HLC HLP
        have HCN := Lib.hid HCN
        clear hout HH hnl
        go_wp2_with fail
        refine HCN.out.mono ?_
        rintro e w10 ⟨g10, rfl, h1, h2, h3⟩
        have H9 := Lib.hid h2.rx
        clear h2
        go_wp2_with fail
        go_ret2
        exact ⟨_, _, by rw [HP.out.1, HP.out.2]; rfl, by rw [HP.out.1]; exact Nat.le_refl _, by have := HLC.out; have := HLP.out; omega, by rw [HP.out.1]; exact H9.out, hU.trans h3⟩
  · have HP := Lib.hid (HNO h33)
    have t0 : decide (33 < ps.length) = true := by simp; omega
    have t0i : decide ((33 : Int) < (ps.length : Int)) = true := by simp; omega
    clear h33 h hB
    go_enter Try.func10, Try.ntmps10
    go_wp2_with fail
    go_ret2
    exact ⟨none, 0, by rw [HP.out.1, HP.out.2]; rfl, by rw [HP.out.1]; exact Nat.le_refl _, by omega, by rw [HP.out.1]; exact RX.nil_, Up.refl _⟩
end Go.Proofs.Ytkngegcfdabpoaa
