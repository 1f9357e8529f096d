/-
  The contract of rational.divide.
-/
import Derived.Test.YtoedmnalnpmleaaLongDiv
namespace Go.Proofs.Ytoedmnalnpmleaa
open Go.RowKit

/-- A call returns two natural numbers. -/
def RetNN (w0 : World) (x r : Nat) (e : Ending) (w' : World) : Prop :=
  ∃ A c B d, e = .returned (.tuple #[.slice A (ln x) c, .slice B (ln r) d]) ∧ ln x ≤ c ∧ c ≤ 9223372036854775807 ∧ ln r ≤ d ∧ d ≤ 9223372036854775807 ∧ NS w' A x ∧ NS w' B r ∧ Up w0 w'

theorem Up.grown {w a b : World} (h : Up w a) {g : Nat} (hg : a.grownBy b (some g)) (hb : w.heap.size ≤ g) : Up w b :=
  ⟨hg.os.trans h.os, hg.tape.trans h.tape, hg.output.trans h.output, Nat.le_trans h.size hg.size, fun k hk => (hg.block k (Nat.lt_of_lt_of_le hk h.size) (by simp; omega)).trans (h.block k hk)⟩

theorem start_lt {u0 : List Nat} {K L1 x S y : Nat} (hu : nv u0 = x * S) (hx : x < 1000000000 ^ (K + L1)) (hy : 1000000000 ^ L1 ≤ y) (hS : 0 < S) (hK : K ≤ u0.length) : nv (u0.drop K) < y * S := by
  have h1 := nv_split u0 K hK
  have h2 : x * S < 1000000000 ^ (K + L1) * S := Nat.mul_lt_mul_of_pos_right hx hS
  rw [Nat.pow_add, Nat.mul_assoc] at h2
  have h3 : 1000000000 ^ K * nv (u0.drop K) < 1000000000 ^ K * (1000000000 ^ L1 * S) := by omega
  exact Nat.lt_of_lt_of_le (Nat.lt_of_mul_lt_mul_left h3) (Nat.mul_le_mul_right _ hy)
theorem v_facts {v0 : List Nat} {L1 V : Nat} (hl : v0.length = L1 + 2) (h9 : ∀ a ∈ v0, a < 1000000000) (hv : nv v0 = V) (hV : V < 1000000000 ^ (L1 + 1)) (hL : 1000000000 ^ L1 ≤ V) :
    nv (v0.take (L1 + 1)) = V ∧ (v0.take (L1 + 1)).getD L1 0 ≠ 0 := by
  have h1 := nv_split v0 (L1 + 1) (by omega)
  have h2 : nv (v0.drop (L1 + 1)) = 0 := by
    rcases Nat.eq_zero_or_pos (nv (v0.drop (L1 + 1))) with h | h
    · exact h
    · have : 1000000000 ^ (L1 + 1) * 1 ≤ 1000000000 ^ (L1 + 1) * nv (v0.drop (L1 + 1)) := Nat.mul_le_mul_left _ h
      omega
  rw [h2, Nat.mul_zero, Nat.add_zero, hv] at h1
  refine ⟨h1.symm, fun h0 => ?_⟩
  have h3 := nv_take' (v0.take (L1 + 1)) L1
  rw [h0, Nat.mul_zero, Nat.add_zero, List.take_take, List.take_take, Nat.min_self, Nat.min_eq_left (by omega), ← h1] at h3
  have h4 := nv_lt (v0.take L1) (fun a ha => h9 a (List.mem_of_mem_take ha))
  rw [List.length_take, Nat.min_eq_left (by omega)] at h4
  omega
/-- quotientLimb on a window of a block. -/
theorem quotientLimb_at (gu gv L j cu cv V : Nat) (us v0 : List Nat) (w : World) (hu : BN w gu us) (hv : BN w gv v0) (hne : gu ≠ gv) (hL : 2 ≤ L) (hL2 : L ≤ 17179869184) (hul : j + (L + 1) ≤ us.length) (hvl : v0.length = L + 1)
    (hu9 : ∀ a ∈ us, a < 1000000000) (hv9 : ∀ a ∈ v0, a < 1000000000) (hV : nv v0 = V) (hVL : V < 1000000000 ^ L) (hLV : 1000000000 ^ (L - 1) ≤ V) (hlt : nv ((us.drop j).take (L + 1)) < V * 1000000000) :
    Calls Try.prog 42 #[.slice (some ⟨gu, j, none⟩) (L + 1) cu, .slice (some ⟨gv, 0, none⟩) L cv] w fun e w' => ∃ W : List Nat, e = .returned (.int .u32 (nv ((us.drop j).take (L + 1)) / V : Nat)) ∧ W.length = L + 1 ∧
      (∀ a ∈ W, a < 1000000000) ∧ nv W = nv ((us.drop j).take (L + 1)) % V ∧ BN w' gu (us.take j ++ W ++ us.drop (j + (L + 1))) ∧ w.grownBy w' (some gu) := by
  obtain ⟨n, rfl⟩ : ∃ n, L = n + 2 := ⟨L - 2, by omega⟩
  obtain ⟨f1, f2⟩ := v_facts (L1 := n + 1) hvl hv9 hV hVL hLV
  have e1 : us = us.take j ++ (us.drop j).take (n + 2 + 1) ++ us.drop (j + (n + 2 + 1)) := by
    rw [List.append_assoc, ← List.drop_drop, List.take_append_drop, List.take_append_drop]
  have e2 : v0 = v0.take (n + 2) ++ v0.drop (n + 2) := (List.take_append_drop _ _).symm
  have l1 : (us.take j).length = j := by simp; omega
  have l2 : (v0.take (n + 2)).length = n + 2 := by simp; omega
  have l3 : ((us.drop j).take (n + 2 + 1)).length = n + 3 := by simp; omega
  rw [e1] at hu
  rw [e2] at hv
  have h := quotientLimb_any gu gv n cu cv (us.take j) ((us.drop j).take (n + 2 + 1)) (us.drop (j + (n + 2 + 1))) (v0.take (n + 2)) (v0.drop (n + 2)) w hu hv hne l3 l2
    (fun a ha => hu9 a (List.mem_of_mem_drop (List.mem_of_mem_take ha))) (fun a ha => hv9 a (List.mem_of_mem_take ha)) (by simpa [l2] using f2) (by rw [f1]; exact hlt) (by omega)
  rw [l1, f1] at h
  refine h.mono ?_
  rintro e w' ⟨rfl, W, hW, hW9, hWv, hWb, hWg⟩
  exact ⟨W, rfl, hW, hW9, hWv, hWb, hWg⟩

set_option maxHeartbeats 6400000 in
theorem divide_lt (A : Option Addr) (cap x : Nat) (B : Option Addr) (dap y : Nat) (w : World) (ha : NS w A x) (hb : NS w B y) (hla : ln x ≤ 17179869183) (hlb : ln y ≤ 17592186044416) (hxy : x < y) :
    Calls Try.prog 38 #[.slice A (ln x) cap, .slice B (ln y) dap] w (RetNN w 0 x) := by
  have HC := compare_any A cap x B dap y w ha hb (by omega) hlb
  rw [cmpN_lt hxy] at HC
  have HC1 := Lib.hid HC
  have hzl : (zs (digs x)).length = ln x := zs_length _
  unfold NS at ha
  have HD := Lib.hid (show RetNN w 0 x = RetNN w 0 x from rfl)
  obtain ⟨R, hR⟩ : ∃ R, R = RetNN w 0 x := ⟨_, rfl⟩
  have HR := Lib.hid hR
  obtain ⟨l, hl⟩ : ∃ l, l = ln x := ⟨_, rfl⟩
  have HL := Lib.hid hl
  rw [← hR]
  obtain ⟨zx, hzx⟩ : ∃ zx, zx = zs (digs x) := ⟨_, rfl⟩
  have HZ := Lib.hid hzx
  rw [← hzx] at ha hzl
  rw [← hzl] at hla HC1 ⊢
  clear HC HD hR hl hzx hxy hzl hb
  go_enter Try.func38, Try.ntmps38
  go_wp2_with fail
  refine HC1.out.mono ?_
  rintro e w1 ⟨rfl, hU⟩
  go_wp2_with (first
    | (at_builtin; go_must (refine wpList_append_ints rfl (.const (.slice none 0 0)) (.tmp 20) 38 rfl w1.heap.size 36 .u32 tabN (.slice none 0 0) [] rfl OI.nil_ w.heap.size A cap zx rfl (SI.below ha hU) (by simp; omega) (Nat.le_refl _) ?_; intro v2 w2 hA2)))
  rw [HR.out]
  obtain ⟨A2, c2, hv2, hc2, hm2, sA2, hO2⟩ := (hA2.own).form
  rw [List.nil_append, HZ.out, zs_length] at hv2 hc2
  rw [List.nil_append, HZ.out] at sA2
  refine ⟨none, 0, A2, c2, by rw [hv2, ln_zero]; rfl, by rw [ln_zero]; omega, by omega, hc2, by simpa [maxLen] using hm2, NS.zero, sA2, ?_⟩
  exact hU.trans (hA2.below (Up.refl w1) OI.nil_ (Nat.le_refl _))
set_option maxHeartbeats 6400000 in
theorem divide_one (A : Option Addr) (cap x : Nat) (B : Option Addr) (dap y : Nat) (w : World) (ha : NS w A x) (hb : NS w B y) (hla : ln x ≤ 17179869183) (hy : y ≠ 0) (hlb : ln y = 1) (hxy : y ≤ x) :
    Calls Try.prog 38 #[.slice A (ln x) cap, .slice B (ln y) dap] w (RetNN w (x / y) (x % y)) := by
  have HC := Lib.hid (compare_any A cap x B dap y w ha hb (by omega) (by omega))
  obtain ⟨z, hz⟩ : ∃ z, z = cmpN x y := ⟨_, rfl⟩
  have hz0 : decide (z < 0) = false := by
    have : ¬ x < y := by omega
    simp [hz, cmpN, this]; split <;> omega
  rw [← hz] at HC
  have hy9 : y < 1000000000 := by have := ln_le.1 (Nat.le_of_eq hlb); omega
  have hdy := digs_small hy hy9
  have hb' := hb
  unfold NS at hb'
  rw [hdy] at hb'
  obtain ⟨ad, hAd, had, hcell⟩ := hb'.nat (k := 0) (by simp)
  subst hAd
  rw [List.getElem_singleton] at hcell
  have HA := Lib.hid ha
  have HXY := Lib.hid (Nat.mod_lt x (Nat.pos_of_ne_zero hy))
  have hly : (((ln y : Nat) : Int) == 1) = true := by rw [hlb]; rfl
  clear hz hxy hb hb' hdy ha
  rw [hlb] at HC hly ⊢
  have hy0 : 0 < y := Nat.pos_of_ne_zero hy
  go_enter Try.func38, Try.ntmps38
  go_wp2_with fail
  refine HC.out.mono ?_
  rintro e w1 ⟨rfl, hU⟩
  have hc1 := (hU.cell (p := ad.add 0) (by rw [block_of_add]; exact had)).trans hcell
  simp [Addr.add] at hc1
  go_wp2_with fail
  refine (divideSmall_any A cap x y w1 (HA.out.up hU) (by omega) hy9 hy0).mono ?_
  rintro e w2 ⟨A2, c2, rfl, hc2, hm2, sA2, hU2⟩
  go_wp2_with fail
  refine (fromWord_any (x % y) w2 (by have := HXY.out; omega)).mono ?_
  rintro e w3 ⟨B3, d3, rfl, hc3, hm3, sB3, hU3⟩
  go_wp2_with fail
  go_ret2
  exact ⟨A2, c2, B3, d3, rfl, hc2, hm2, hc3, hm3, sA2.up hU3, sB3, hU.trans (hU2.trans hU3)⟩
set_option maxHeartbeats 12800000 in
theorem divide_big (A : Option Addr) (cap x : Nat) (B : Option Addr) (dap y : Nat) (w : World) (ha : NS w A x) (hb : NS w B y) (hla : ln x ≤ 17179869183) (hlb : 2 ≤ ln y) (hxy : y ≤ x) :
    Calls Try.prog 38 #[.slice A (ln x) cap, .slice B (ln y) dap] w (RetNN w (x / y) (x % y)) := by
  have hlyx : ln y ≤ ln x := ln_mono hxy
  have HC := Lib.hid (compare_any A cap x B dap y w ha hb (by omega) (by omega))
  obtain ⟨z, hz⟩ : ∃ z, z = cmpN x y := ⟨_, rfl⟩
  have hz0 : decide (z < 0) = false := by
    have : ¬ x < y := by omega
    simp [hz, cmpN, this]; split <;> omega
  rw [← hz] at HC
  have hyp : 1000000000 ^ (ln y - 1) ≤ y := pow_le_of_ln (by omega)
  obtain ⟨L, hL⟩ : ∃ L, L = ln y := ⟨_, rfl⟩
  have hyl : (digs y).length = L := hL.symm
  obtain ⟨ad, hAd, had, hcell⟩ := hb.nat (k := L - 1) (by omega)
  subst hAd
  have htop := digs_lt y _ (List.getElem_mem (show L - 1 < (digs y).length by omega))
  have hlead := lead_lt (n := L - 1) (ys := digs y) (by omega) (digs_lt y)
  rw [nv_digs] at hlead
  obtain ⟨t, ht⟩ : ∃ t, t = (digs y)[L - 1]'(by omega) := ⟨_, rfl⟩
  rw [← ht] at hcell htop hlead
  have ht0 : t ≠ 0 := by
    rintro rfl
    have := Nat.lt_of_lt_of_le hlead (by rw [Nat.zero_add, Nat.one_mul, hL]; exact hyp)
    omega
  obtain ⟨S, hS⟩ : ∃ S, S = 1000000000 / (t + 1) := ⟨_, rfl⟩
  have hsc := scale_lt hlead
  have hsp := (scale_pos htop).1
  have hS2 : S ≤ 500000000 := by
    rw [hS]
    exact Nat.le_trans (Nat.div_le_div_left (by omega : 2 ≤ t + 1) (by omega)) (by decide)
  rw [← hS, show L - 1 + 1 = L from by omega] at hsc
  rw [← hS] at hsp
  have hSi : (1000000000 : Int) / ((t : Int) + 1) = (S : Int) := by rw [hS]; simp
  have HSI := Lib.hid hSi
  have HA := Lib.hid ha
  have HB := Lib.hid hb
  have HSC := Lib.hid hsc
  have HYP := Lib.hid hyp
  have HXY := Lib.hid hxy
  have HL := Lib.hid hL
  have HSP := Lib.hid hsp
  have htop1 : 1 ≤ t := by omega
  have hly : (((L : Nat) : Int) == 1) = false := by simp; omega
  rw [← hL] at HC hlb hlyx ⊢
  have hLn : ((L : Int) - 1).toNat = L - 1 := by omega
  obtain ⟨M, hM⟩ : ∃ M, M = ln x := ⟨_, rfl⟩
  have HM := Lib.hid hM
  rw [← hM] at HC hlyx hla ⊢
  have hgb : ad.block < w.heap.size := had
  clear hz hxy ha hb hyp hyl ht hlead ht0 hS hsc hsp hSi hL hM had
  go_enter Try.func38, Try.ntmps38
  go_wp2_with fail
  refine HC.out.mono ?_
  rintro e w1 ⟨rfl, hU⟩
  have hc1 := (hU.cell (p := ad.add (L - 1)) (by rw [block_of_add]; exact hgb)).trans hcell
  go_wp2_with fail
  rw [HSI.out]
  have HS1 := multiplySmall_any A cap x S w1 (HA.out.up hU) (by rw [← HM.out]; omega) (by omega)
  rw [← HM.out] at HS1
  refine HS1.mono ?_
  rintro e w2 ⟨u0, rfl, hu0l, hu09, hu0v, hBu, hU2⟩
  have HU0 := Lib.hid (And.intro hu0l (And.intro hu09 (And.intro hu0v hBu)))
  clear HS1 hu0l hu09 hu0v hBu
  go_wp2_with fail
  have HS2 := multiplySmall_any (some ad) dap y S w2 ((HB.out.up hU).up hU2) (by rw [← HL.out]; omega) (by omega)
  rw [← HL.out] at HS2
  refine HS2.mono ?_
  rintro e w3 ⟨v0, rfl, hv0l, hv09, hv0v, hBv, hU3⟩
  have HV0 := Lib.hid (And.intro hv0l (And.intro hv09 (And.intro hv0v hBv)))
  have g1 := Lib.hid hU.size
  have g2 := Lib.hid hU2.size
  have g3 := Lib.hid hU3.size
  have g4 := Lib.hid (HU0.out.2.2.2.lt)
  obtain ⟨gu, hgu⟩ : ∃ g, g = w1.heap.size := ⟨_, rfl⟩
  obtain ⟨gv, hgv⟩ : ∃ g, g = w2.heap.size := ⟨_, rfl⟩
  have HGU := Lib.hid hgu
  have HGV := Lib.hid hgv
  rw [← hgu, ← hgv]
  clear HS2 hv0l hv09 hv0v hBv hgu hgv
  obtain ⟨K, hK⟩ : ∃ K, K = M - L + 1 := ⟨_, rfl⟩
  have hKi : (M : Int) - L + 1 = (K : Int) := by omega
  go_wp2_with (first
    | (at_make; go_must (refine wpList_makeB rfl (.tmp 59) (.tmp 59) 38 rfl 36 .u32 tabN .i64 .i64 _ _ K rfl rfl (by omega) (by omega) (by omega) ?_; intro w4 hB4 hU4)))
  rw [← hK]
  have hKL : K + L = M + 1 := by omega
  clear hK
  have hgq : w3.heap.size = w3.heap.size := rfl
  obtain ⟨gq, HGQ⟩ : ∃ g, Hid (g = w3.heap.size) := ⟨_, Lib.hid rfl⟩
  rw [← HGQ.out] at hB4 ⊢
  have q1 : gu < gv := by rw [HGU.out, HGV.out]; have := g4.out; exact this
  have q2 : gv < gq := by rw [HGV.out, HGQ.out]; exact HV0.out.2.2.2.lt
  have q3 : w.heap.size ≤ gu := by rw [HGU.out]; exact g1.out
  have HB4 := Lib.hid (BN.zeros hB4)
  have HBV := Lib.hid (show BN w4 gv v0 from by rw [HGV.out]; exact HV0.out.2.2.2.up hU4)
  have HBU := Lib.hid (show BN w4 gu u0 from by rw [HGU.out]; exact (HU0.out.2.2.2.up hU3).up hU4)
  have hU04 : Up w w4 := hU.trans (hU2.trans (hU3.trans hU4))
  have HLD := Lib.hid (LD.start (u0 := u0) (V := y * S) (n := L) (K := K) (by rw [HU0.out.1]; omega) HU0.out.2.1 (start_lt (L1 := L - 1) HU0.out.2.2.1 (by rw [show K + (L - 1) = ln x from by rw [← HM.out]; omega]; exact lt_pow_ln x) (by rw [HL.out]; exact HYP.out) HSP.out (by rw [HU0.out.1]; omega)) HSC.out)
  clear hB4 hgq hc1 hcell
  go_loopw [13] (fun iv wr => ∃ (k : Nat) (o us : List Nat), k ≤ K ∧ iv = .int .i64 ((k : Int) - 1) ∧ Hid (LD u0 (y * S) L K k o us) ∧ Hid (BN wr gu us) ∧ Hid (BN wr gv v0) ∧ Hid (BN wr gq o) ∧ Up w wr) (fun iv _ => (intOf iv + 1).toNat)
  case atStart => exact ⟨K, List.replicate K 0, u0, Nat.le_refl _, by congr 1; omega, HLD, HBU, HBV, HB4, hU04⟩
  case round =>
    obtain ⟨k, o, us, hk, rfl, HK, HU1, HV1, HQ1, hUr⟩ := hrel
    by_cases hk0 : k = 0
    · subst hk0
      obtain ⟨e1, e2⟩ := HK.out.stop
      have hsu := HU1.out.si
      have hsq := HQ1.out.si
      have hlu : us.length = M + 1 := by have := HK.out.lu; omega
      have hlo := HK.out.lo
      obtain ⟨T1, T2⟩ := trim_reads hsu HK.out.u9
      obtain ⟨T3, T4⟩ := trim_reads hsq HK.out.o9
      have HT := trim_any _ (M + 1) us wr.heap.size wr hsu (by omega) (by omega) HK.out.u9
      have HT2 := trim_any _ K o wr.heap.size wr hsq (by omega) (by omega) HK.out.o9
      rw [hlu] at HT T2
      rw [hlo] at HT2 T4
      have hv1 : nv o = x / y := by rw [e1, HU0.out.2.2.1, (div_scaled HSP.out).1]
      have hv2 : nv us / S = x % y := by rw [e2, HU0.out.2.2.1, (div_scaled HSP.out).2]
      have H1 := Lib.hid HT
      have H2 := Lib.hid HT2
      have H3 := Lib.hid T1
      have H4 := Lib.hid T3
      have H5 := Lib.hid T4
      have H6 := Lib.hid hv1
      have H7 := Lib.hid hv2
      clear HT HT2 T1 T3 T4 e1 e2 hsu hsq hlu hlo hv1 hv2
      go_wp2_with fail
      refine H1.out.mono ?_
      rintro e w5 ⟨rfl, rfl⟩
      go_wp2_with fail
      refine (divideSmall_any _ (M + 1) (nv us) S wr H3.out (by omega) (by omega) HSP.out).mono ?_
      rintro e w6 ⟨A2, c2, rfl, hc2, hm2, sA2, hU6⟩
      rw [H7.out] at hc2 sA2 ⊢
      have HT6 := Lib.hid (trim_any _ K o wr.heap.size w6 (SI.below HQ1.out.si hU6) (by rw [HK.out.lo]; omega) (by omega) HK.out.o9)
      rw [HK.out.lo] at HT6
      go_wp2_with fail
      refine HT6.out.mono ?_
      rintro e w7 ⟨rfl, rfl⟩
      go_wp2_with fail
      go_ret2
      have h5 := H5.out
      have h4 := H4.out
      rw [H6.out] at h4 h5
      rw [H6.out]
      exact ⟨_, K, A2, c2, rfl, h5, by omega, hc2, hm2, SI.up h4 hU6, sA2, hUr.trans hU6⟩
    · obtain ⟨j, rfl⟩ : ∃ j, k = j + 1 := ⟨k - 1, by omega⟩
      have kk : ((j + 1 : Nat) : Int) - 1 = (j : Int) := by omega
      rw [kk]
      obtain ⟨hw1, hw2⟩ := HK.out.window
      have hQ := quotientLimb_at gu gv L j (M + 1 - j) (L + 1) (y * S) us v0 wr HU1.out HV1.out (by omega) (by omega) (by omega) (by have := HK.out.lu; omega) HV0.out.1 HK.out.u9 HV0.out.2.1 HV0.out.2.2.1 HSC.out
        (Nat.le_trans (by rw [HL.out]; exact HYP.out) (Nat.le_mul_of_pos_right _ HSP.out)) hw2
      have hyS : 0 < y * S := Nat.lt_of_le_of_lt (Nat.zero_le _) HK.out.lt
      have hq9 : nv ((us.drop j).take (L + 1)) / (y * S) < 1000000000 := by rw [Nat.div_lt_iff_lt_mul hyS, Nat.mul_comm]; exact hw2
      have HQQ := Lib.hid hQ
      obtain ⟨qj, hqj⟩ : ∃ q, q = nv ((us.drop j).take (L + 1)) / (y * S) := ⟨_, rfl⟩
      have HQJ := Lib.hid hqj
      rw [← hqj] at hq9 HQQ
      clear hQ hw1 hw2 hyS hqj
      go_wp2_with fail
      rw [show j + L + 1 - j = L + 1 from by omega]
      refine HQQ.out.mono ?_
      rintro e w5 ⟨W, rfl, hW, hW9, hWv, hWB, hWG⟩
      have hqo := (HQ1.out.only hWG (by omega)).cell (k := j) (by have := HK.out.lo; omega)
      have hqf := (HQ1.out.only hWG (by omega)).frozen j
      have hus := Lib.hid hUr.size
      have HW := Lib.hid (HK.out.step (Nat.lt_of_le_of_lt (Nat.zero_le _) HK.out.lt) hW hW9 hWv)
      rw [← HQJ.out] at HW
      have HB5 := Lib.hid hWB
      have HG5 := Lib.hid hWG
      have HQ5 := Lib.hid (HQ1.out.only hWG (by omega))
      have HV5 := Lib.hid (HV1.out.only hWG (by omega))
      have hjK : (j : Int) < K := by omega
      clear hW hW9 hWv hWB hWG
      go_wp2_with fail
      go_roundw
      case rel =>
        refine ⟨j, o.set j qj, us.take j ++ W ++ us.drop (j + (L + 1)), by omega, rfl, HW, Lib.hid (HB5.out.far (by simp; omega) _), Lib.hid (HV5.out.far (by simp; omega) _), Lib.hid (HQ5.out.set_ j qj rfl), (hUr.grown HG5.out q3).setCell (by simp; omega) _⟩
      case measure => simp [intOf] <;> omega
theorem divide_any (A : Option Addr) (cap x : Nat) (B : Option Addr) (dap y : Nat) (w : World) (ha : NS w A x) (hb : NS w B y) (hla : ln x ≤ 17179869183) (hlb : ln y ≤ 17592186044416) (hy : y ≠ 0) :
    Calls Try.prog 38 #[.slice A (ln x) cap, .slice B (ln y) dap] w (RetNN w (x / y) (x % y)) := by
  by_cases hxy : x < y
  · rw [Nat.div_eq_of_lt hxy, Nat.mod_eq_of_lt hxy]
    exact divide_lt A cap x B dap y w ha hb hla hlb hxy
  by_cases h1 : ln y = 1
  · exact divide_one A cap x B dap y w ha hb hla hy h1 (by omega)
  · have : ln y ≠ 0 := fun h => hy (ln_eq_zero.1 h)
    exact divide_big A cap x B dap y w ha hb hla (by omega) (by omega)
end Go.Proofs.Ytoedmnalnpmleaa
