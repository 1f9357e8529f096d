/-
  The document's Product.
-/
import Derived.Test.YtiiebgfjdkkdeaaLDiff
import Derived.Test.YtiiebgfjdkkdeaaLProd
import Derived.Test.YtiiebgfjdkkdeaaLFac
import Derived.Test.YtiiebgfjdkkdeaaPH
import Derived.Test.YtiiebgfjdkkdeaaLCanR
namespace Go.Proofs.Ytiiebgfjdkkdeaa
open Go.RowKit

theorem qs_fac40 (n : Nat) (h : n ≤ 40) : qs (fac n : Rat) ≤ 41 := Nat.le_trans (qs_fac n (by omega)) (by omega)
theorem pc_of {a b k : Nat} (h1 : max a b ≤ k) (h2 : k ≤ a + b) : (fac k : Rat) / (fac (k - a) * fac (k - b) * fac (a + b - k)) = pc a b k := (pc_fac a b k h1 h2).symm
theorem pc_low {a b k : Nat} (h1 : ¬ max a b ≤ k) : ((0 : Int) : Rat) = pc a b k := by rw [pc, if_neg (by omega)]; rfl
theorem rowQ_take (a b k : Nat) (h : k ≤ a + b) : (rowQ a b).take (k + 1) = (rowQ a b).take k ++ [pc a b k] := by
  have hl : k < (rowQ a b).length := by rw [rowQ_len]; omega
  rw [List.take_succ_eq_append_getElem hl]
  simp [rowQ]

set_option maxRecDepth 100000 in
set_option maxHeartbeats 3200000 in
theorem rProduct_q (a b : Int) {w : World} : Calls Try.prog 16 #[.int .i64 a, .int .i64 b] w (RetLB w (prodV a b) (prodB a b)) := by
  by_cases h : 0 ≤ a ∧ a ≤ 16 ∧ 0 ≤ b ∧ b ≤ 16
  · obtain ⟨h1, h2, h3, h4⟩ := h
    obtain ⟨a, rfl⟩ : ∃ m : Nat, a = (m : Int) := ⟨a.toNat, by omega⟩
    obtain ⟨b, rfl⟩ : ∃ m : Nat, b = (m : Int) := ⟨b.toNat, by omega⟩
    have HP := Lib.hid (prod_yes (a := a) (b := b) (by omega) (by omega))
    have ha16 : a ≤ 16 := by omega
    have hb16 : b ≤ 16 := by omega
    have t1 : decide ((a : Int) < 0) = false := by simp
    have t2 : decide ((16 : Int) < a) = false := by simp; omega
    have t3 : decide (16 < a) = false := by simp; omega
    have t4 : decide ((b : Int) < 0) = false := by simp
    have t5 : decide ((16 : Int) < b) = false := by simp; omega
    have t6 : decide (16 < b) = false := by simp; omega
    clear h1 h2 h3 h4
    go_enter Try.func16, Try.ntmps16
    go_wp2_with fail
    go_loopw [6, 7] (fun v iv wr => ∃ k : Nat, k ≤ a + b + 1 ∧ iv = .int .i64 k ∧ Hid (AX none wr w.heap.size v ((rowQ a b).take k)) ∧ Up w wr) (fun _ iv _ => a + b + 1 - (intOf iv).toNat)
    case atStart => exact ⟨0, Nat.zero_le _, rfl, Lib.hid AX.nil_, Up.refl _⟩
    case round =>
      obtain ⟨k, hk, rfl, HA, hU⟩ := hrel
      clear t1 t2 t3 t4 t5 t6
      by_cases hkl : k ≤ a + b
      · have t1 : decide ((k : Int) ≤ (a : Int) + (b : Int)) = true := by simp; omega
        have HT := Lib.hid (rowQ_take a b k hkl)
        have HLN := Lib.hid (show ((rowQ a b).take k).length + [pc a b k].length ≤ 1000000 by simp; omega)
        obtain ⟨z, hz⟩ : ∃ z, z = pc a b k := ⟨_, rfl⟩
        rw [← hz] at HT HLN
        obtain ⟨l, hl⟩ : ∃ l, l = (rowQ a b).take k := ⟨_, rfl⟩
        rw [← hl] at HA HLN HT
        have hown := HA.out.own_lt
        have HOWN := Lib.hid hown
        clear hl hown
        go_wp2_with fail
        refine (rFromInt_q 0 (by omega) (by omega)).mono ?_
        rintro e w2 ⟨v2, rfl, hQ2, U2⟩
        obtain ⟨s2, A2, n2, c2, B2, m2, d2, rfl⟩ := hQ2.shape
        have HQ2 := Lib.hid hQ2
        have hsz2 := U2.size
        clear hQ2
        by_cases hmx : max a b ≤ k
        · have hba : b ≤ k := by omega
          have haa : a ≤ k := by omega
          have HVAL := Lib.hid (pc_of hmx hkl)
          rw [← hz] at HVAL
          have HF1 := Lib.hid (fun (wx : World) => factorial_q (k - a) (by omega) (w := wx))
          have HF2 := Lib.hid (fun (wx : World) => factorial_q (k - b) (by omega) (w := wx))
          have HF3 := Lib.hid (fun (wx : World) => factorial_q k (by omega) (w := wx))
          have HF4 := Lib.hid (fun (wx : World) => factorial_q (a + b - k) (by omega) (w := wx))
          rw [show ((k - a : Nat) : Int) = (k : Int) - (a : Int) from by omega] at HF1
          rw [show ((k - b : Nat) : Int) = (k : Int) - (b : Int) from by omega] at HF2
          rw [show ((a + b - k : Nat) : Int) = (a : Int) + (b : Int) - (k : Int) from by omega] at HF4
          have HS1 := Lib.hid (qs_fac40 (k - a) (by omega))
          have HS2 := Lib.hid (qs_fac40 (k - b) (by omega))
          have HS3 := Lib.hid (qs_fac40 k (by omega))
          have HS4 := Lib.hid (qs_fac40 (a + b - k) (by omega))
          have ki1 : (0 : Int) ≤ k := by omega
          have ki2 : (k : Int) ≤ (a : Int) + (b : Int) := by omega
          have ki3 : (a : Int) ≤ k := by omega
          have ki4 : (b : Int) ≤ k := by omega
          by_cases hab : a < b
          case' pos => have tm : decide (b ≤ k) = true := by simpa using hba
          case' neg => have tm : decide (a ≤ k) = true := by simpa using haa
          all_goals
            clear hmx hba haa hz
            go_wp2_with fail
            obtain ⟨w3, hw3⟩ : ∃ w3, w3 = w2.alloc (Obj.cells #[.bool s2, .slice A2 n2 c2, .slice B2 m2 d2] 24) := ⟨_, rfl⟩
            have U3 : Up w2 w3 := by rw [hw3]; exact (Below.refl _ _).alloc (Nat.le_refl _) _
            have b3 : Blk w3 w2.heap.size 24 #[.bool s2, .slice A2 n2 c2, .slice B2 m2 d2] := by rw [hw3]; exact Blk.new' _ _ _ rfl
            rw [← hw3]
            obtain ⟨g3, hg3⟩ : ∃ g, g = w2.heap.size := ⟨_, rfl⟩
            have hge : wr.heap.size ≤ g3 := by omega
            rw [← hg3] at b3 ⊢
            have V3 := U2.trans U3
            clear hw3 hg3 hsz2 U3
            refine (HF1.out w3).mono ?_
            rintro e w4 ⟨v4, rfl, hQ4, U4⟩
            obtain ⟨s4, A4, n4, c4, B4, m4, d4, rfl⟩ := hQ4.shape
            have HQ4 := Lib.hid hQ4
            clear hQ4
            go_wp2_with fail
            refine (HF2.out w4).mono ?_
            rintro e w5 ⟨v5, rfl, hQ5, U5⟩
            obtain ⟨s5, A5, n5, c5, B5, m5, d5, rfl⟩ := hQ5.shape
            have HM1 := Lib.hid (rMul_q ((HQ4.out.up U5).iv HS1.out) (hQ5.iv HS2.out) (by omega))
            clear hQ5
            go_wp2_with fail
            refine HM1.out.mono ?_
            rintro e w6 ⟨v6, rfl, hQ6, U6⟩
            obtain ⟨s6, A6, n6, c6, B6, m6, d6, rfl⟩ := hQ6.shape
            have HQ6 := Lib.hid hQ6
            have HS6 := Lib.hid (Nat.le_trans (qs_mul _ _) (Nat.add_le_add HS1.out HS2.out))
            clear hQ6
            go_wp2_with fail
            refine (HF4.out w6).mono ?_
            rintro e w7 ⟨v7, rfl, hQ7, U7⟩
            obtain ⟨s7, A7, n7, c7, B7, m7, d7, rfl⟩ := hQ7.shape
            have HM2 := Lib.hid (rMul_q ((HQ6.out.up U7).iv HS6.out) (hQ7.iv HS4.out) (by omega))
            clear hQ7
            go_wp2_with fail
            refine HM2.out.mono ?_
            rintro e w8 ⟨v8, rfl, hQ8, U8⟩
            obtain ⟨s8, A8, n8, c8, B8, m8, d8, rfl⟩ := hQ8.shape
            have HDV := Lib.hid (fun wx vx (u : Up w8 wx) (h : QV wx vx (fac k : Rat)) => rDiv_q (h.iv HS3.out) ((hQ8.up u).iv (Nat.le_trans (qs_mul _ _) (Nat.add_le_add HS6.out HS4.out))) (by omega))
            rw [HVAL.out] at HDV
            have V8 := V3.trans (U4.trans (U5.trans (U6.trans (U7.trans U8))))
            have b8 := b3.up (U4.trans (U5.trans (U6.trans (U7.trans U8))))
            clear hQ8 U4 U5 U6 U7 U8 V3 b3
            go_wp2_with fail
            obtain ⟨w9, hw9⟩ : ∃ w9, w9 = w8.alloc (Obj.cells #[.bool s8, .slice A8 n8 c8, .slice B8 m8 d8] 24) := ⟨_, rfl⟩
            have U9 : Up w8 w9 := by rw [hw9]; exact (Below.refl _ _).alloc (Nat.le_refl _) _
            have b9 : Blk w9 w8.heap.size 24 #[.bool s8, .slice A8 n8 c8, .slice B8 m8 d8] := by rw [hw9]; exact Blk.new' _ _ _ rfl
            rw [← hw9]
            obtain ⟨g9, hg9⟩ : ∃ g, g = w8.heap.size := ⟨_, rfl⟩
            rw [← hg9] at b9 ⊢
            have b39 := b8.up U9
            have V9 := V8.trans U9
            clear hw9 hg9 b8 V8
            have HE : Hid (∀ W : World, Up w9 W → (W.cell? ⟨g9, 0, none⟩ = some (.bool s8) ∧ W.cell? ⟨g9, 1, none⟩ = some (.slice A8 n8 c8) ∧ W.cell? ⟨g9, 2, none⟩ = some (.slice B8 m8 d8))) := Lib.hid fun W hW => tri (b9.up hW)
            refine wp_region_noPanic ?_
            refine wp_region_till (S := (fun wx => (wx.cell? ⟨g9, 0, none⟩ = some (.bool s8) ∧ wx.cell? ⟨g9, 1, none⟩ = some (.slice A8 n8 c8) ∧ wx.cell? ⟨g9, 2, none⟩ = some (.slice B8 m8 d8)))) 7 [(0, 0), (2, 0), (1, 1), (3, 1), (4, 0), (5, 0), (6, 2)] [7] (by kernel_rfl) (by as_aux_lemma => kernel_rfl) (by as_aux_lemma => kernel_rfl) (by as_aux_lemma => kernel_rfl) (fun _ _ _ _ _ h => h) (HE.out _ (Up.refl w9).drew) ?_
            intro O2 HO2
            refine wpT_take (i := 0) (v := ?_) (by as_aux_lemma => rw [HO2.out]; simp only [List.getElem?_toArray, List.getElem?_cons_zero]; rfl) (Or.inl ⟨(by rfl), ?_⟩) ?_
            rotate_left
            · as_aux_lemma => intro wx hSx; (try dsimp only at hSx); go_simp; try with_reducible rfl
            try simp only [Act.put, List.setIfInBounds_toArray, List.set_cons_zero, List.set_cons_succ]
            refine wpT_take (i := 2) (v := ?_) (by as_aux_lemma => rw [HO2.out]; simp only [List.getElem?_toArray, List.getElem?_cons_succ, List.getElem?_cons_zero]; rfl) (Or.inl ⟨(by rfl), ?_⟩) ?_
            rotate_left
            · as_aux_lemma => intro wx hSx; (try dsimp only at hSx); go_simp; try with_reducible rfl
            try simp only [Act.put, List.setIfInBounds_toArray, List.set_cons_zero, List.set_cons_succ]
            refine wpT_call (i := 1) (by as_aux_lemma => rw [HO2.out]; simp only [List.getElem?_toArray, List.getElem?_cons_succ, List.getElem?_cons_zero]; rfl) (by rfl) (fun K' hK => ?_)
            go_simp
            refine (HF3.out _).mono ?_
            rintro e w10 ⟨v10, rfl, hQ10, U10⟩
            obtain ⟨s10, A10, n10, c10, B10, m10, d10, rfl⟩ := hQ10.shape
            have HQ10 := Lib.hid hQ10
            have V10 : Up w9 w10 := Up.trans (Up.refl w9).drew U10
            have kk10 := HE.out _ V10
            clear hQ10
            go_wp2_with fail
            refine hK.out _ _ kk10 (fun _ => ?_)
            clear hK K'
            try simp only [Act.put, List.setIfInBounds_toArray, List.set_cons_zero, List.set_cons_succ]
            refine wpT_call (i := 3) (by as_aux_lemma => rw [HO2.out]; simp only [List.getElem?_toArray, List.getElem?_cons_succ, List.getElem?_cons_zero]; rfl) (by rfl) (fun K' hK => ?_)
            go_simp
            refine (HDV.out _ _ (U9.trans V10) HQ10.out).mono ?_
            rintro e w11 ⟨v11, rfl, hQ11, U11⟩
            obtain ⟨s11, A11, n11, c11, B11, m11, d11, rfl⟩ := hQ11.shape
            have HQ11 := Lib.hid hQ11
            have V11 : Up w9 w11 := Up.trans V10 U11
            have kk11 := HE.out _ V11
            clear hQ11
            have x11 := (b39.up V11)
            obtain ⟨k0, k1, k2⟩ := tri x11
            have f0 := x11.frozen 0
            have f1 := x11.frozen 1
            have f2 := x11.frozen 2
            go_wp2_with fail
            refine hK.out _ _ kk11 (fun _ => ?_)
            clear hK K'
            try simp only [Act.put, List.setIfInBounds_toArray, List.set_cons_zero, List.set_cons_succ]
            refine wpT_take (i := 4) (v := ?_) (by as_aux_lemma => rw [HO2.out]; simp only [List.getElem?_toArray, List.getElem?_cons_succ, List.getElem?_cons_zero]; rfl) (Or.inl ⟨(by rfl), ?_⟩) ?_
            rotate_left
            · as_aux_lemma => intro wx hSx; (try dsimp only at hSx); go_simp; try with_reducible rfl
            try simp only [Act.put, List.setIfInBounds_toArray, List.set_cons_zero, List.set_cons_succ]
            refine wpT_take (i := 5) (v := ?_) (by as_aux_lemma => rw [HO2.out]; simp only [List.getElem?_toArray, List.getElem?_cons_succ, List.getElem?_cons_zero]; rfl) (Or.inl ⟨(by rfl), ?_⟩) ?_
            rotate_left
            · as_aux_lemma => intro wx hSx; (try dsimp only at hSx); go_simp; try with_reducible rfl
            try simp only [Act.put, List.setIfInBounds_toArray, List.set_cons_zero, List.set_cons_succ]
            refine wpT_free (i := 6) (v := ?_) (by as_aux_lemma => rw [HO2.out]; simp only [List.getElem?_toArray, List.getElem?_cons_succ, List.getElem?_cons_zero]; rfl) (Or.inl ⟨(by rfl), ?_⟩) ?_
            rotate_left
            · as_aux_lemma => intro wx hSx; (try dsimp only at hSx); go_simp; try with_reducible rfl
            try simp only [Act.put, List.setIfInBounds_toArray, List.set_cons_zero, List.set_cons_succ]
            refine wpT_tail (i := 7) (by as_aux_lemma => rw [HO2.out]; simp only [List.getElem?_toArray, List.getElem?_cons_succ, List.getElem?_cons_zero]; rfl) (by rfl) (fun K' hK => ?_)
            go_simp
            go_wp2_with fail
            refine hK.out _ _ ?_
            clear hK K'
            try simp only [Act.put, List.setIfInBounds_toArray, List.set_cons_zero, List.set_cons_succ]
            refine wpT_end (NoPanic.normal ?_)
            clear HO2 O2
            have hb12 := tri_set x11 (.bool s11) (.slice A11 n11 c11) (.slice B11 m11 d11)
            have hQ12 := QV.kp HQ11.out (Kp.tri (Kp.refl w11) x11 (s' := s11) (C := A11) (m := n11) (d := c11) (C' := B11) (m' := m11) (d' := d11))
            have hV12 := up_tri (V9.trans V11) hge (.bool s11) (.slice A11 n11 c11) (.slice B11 m11 d11)
            obtain ⟨w12, hw12⟩ : ∃ x, x = ((w11.setCell ⟨g3, 0, none⟩ (.bool s11)).setCell ⟨g3, 1, none⟩ (.slice A11 n11 c11)).setCell ⟨g3, 2, none⟩ (.slice B11 m11 d11) := ⟨_, rfl⟩
            rw [← hw12] at hb12 hQ12 hV12 ⊢
            clear hw12 x11 k0 k1 k2 f0 f1 f2
            obtain ⟨k0, k1, k2⟩ := tri hb12
            have U13 : Up w12 (w12.alloc (Obj.cells #[.bool s11, .slice A11 n11 c11, .slice B11 m11 d11] 24)) := Below.alloc (Up.refl _) (Nat.le_refl _) _
            have HA13 := Lib.hid (HA.out.up (hV12.trans U13))
            have HR13 := Lib.hid (RX.one (m := none) (Blk.new w12 24 #[.bool s11, .slice A11 n11 c11, .slice B11 m11 d11]) (hQ12.up U13))
            have hV13 := hU.trans (hV12.trans U13)
            have hsz := hV13.size
            clear hQ12 U13
            go_wp2_with (first
              | (at_builtin; refine wpList_append_rats rfl _ _ rfl rfl HA13.out rfl rfl HR13.out (fun h => by cases h) HLN.out hsz ?_))
            intro v14 w14 hA14
            have hV14 := hA14.below hV13 HA13.out hsz
            have HA14 := hA14.own
            rw [← HT.out] at HA14
            have HA14 := Lib.hid HA14
            clear hA14 hsz hV13
            go_wp2_with fail
            go_roundw
            case rel => exact ⟨k + 1, by omega, by go_num, HA14, hV14⟩
            case measure => simp [intOf]; omega
        · have hlow := pc_low (a := a) (b := b) hmx
          rw [← hz] at hlow
          have U13 : Up w2 ((w2.alloc (Obj.cells #[.bool s2, .slice A2 n2 c2, .slice B2 m2 d2] 24)).alloc (Obj.cells #[.bool s2, .slice A2 n2 c2, .slice B2 m2 d2] 24)) := Below.alloc (Below.alloc (Up.refl _) (Nat.le_refl _) _) (by simp) _
          have HA13 := Lib.hid (HA.out.up (U2.trans U13))
          have hQ2 := HQ2.out
          rw [hlow] at hQ2
          have HR13 := Lib.hid (RX.one (m := none) (Blk.new' (w2.alloc (Obj.cells #[.bool s2, .slice A2 n2 c2, .slice B2 m2 d2] 24)) 24 #[.bool s2, .slice A2 n2 c2, .slice B2 m2 d2] (g := w2.heap.size + 1) (by simp)) (hQ2.up U13))
          have hV13 := hU.trans (U2.trans U13)
          have hsz := hV13.size
          clear hQ2 hlow U13 hz
          by_cases hab : a < b
          case' pos => have tm : decide (b ≤ k) = false := by simp; omega
          case' neg => have tm : decide (a ≤ k) = false := by simp; omega
          all_goals
            clear hmx
            go_wp2_with (first
              | (at_builtin; refine wpList_append_rats rfl _ _ rfl rfl HA13.out rfl rfl HR13.out (fun h => by cases h) HLN.out hsz ?_))
            intro v14 w14 hA14
            have hV14 := hA14.below hV13 HA13.out hsz
            have HA14 := hA14.own
            rw [← HT.out] at HA14
            have HA14 := Lib.hid HA14
            clear hA14 hsz hV13
            go_wp2_with fail
            go_roundw
            case rel => exact ⟨k + 1, by omega, by go_num, HA14, hV14⟩
            case measure => simp [intOf]; omega
      · have t1 : decide ((k : Int) ≤ (a : Int) + (b : Int)) = false := by simp; omega
        have hA := HA.out
        rw [List.take_of_length_le (by rw [rowQ_len]; omega)] at hA
        obtain ⟨A9, c9, rfl, h1, h2, h3⟩ := hA.rx
        have H9 := Lib.hid (And.intro h1 (And.intro h2 h3))
        clear hA h1 h2 h3 HA
        go_wp2_with fail
        go_ret2
        exact ⟨A9, c9, by rw [HP.out.1, HP.out.2]; rfl, by rw [HP.out.1]; exact H9.out.1, H9.out.2.1, by rw [HP.out.1]; exact H9.out.2.2, hU⟩
  · have HP := Lib.hid (prod_no h)
    by_cases h1 : a < 0
    · have t1 : decide (a < 0) = true := by simpa using h1
      clear h
      go_enter Try.func16, Try.ntmps16
      go_wp2_with fail
      go_ret2
      exact ⟨none, 0, by rw [HP.out.1, HP.out.2]; rfl, by rw [HP.out.1]; exact Nat.le_refl _, by omega, by rw [HP.out.1]; exact RX.nil_, Up.refl _⟩
    by_cases h2 : b < 0
    · have t1 : decide (a < 0) = false := by simpa using h1
      have t2 : decide (b < 0) = true := by simpa using h2
      clear h
      go_enter Try.func16, Try.ntmps16
      go_wp2_with fail
      go_ret2
      exact ⟨none, 0, by rw [HP.out.1, HP.out.2]; rfl, by rw [HP.out.1]; exact Nat.le_refl _, by omega, by rw [HP.out.1]; exact RX.nil_, Up.refl _⟩
    by_cases h3 : 16 < a
    · have t1 : decide (a < 0) = false := by simpa using h1
      have t2 : decide (b < 0) = false := by simpa using h2
      have t3 : decide (16 < a) = true := by simpa using h3
      clear h
      go_enter Try.func16, Try.ntmps16
      go_wp2_with fail
      go_ret2
      exact ⟨none, 0, by rw [HP.out.1, HP.out.2]; rfl, by rw [HP.out.1]; exact Nat.le_refl _, by omega, by rw [HP.out.1]; exact RX.nil_, Up.refl _⟩
    have h4 : 16 < b := by omega
    · have t1 : decide (a < 0) = false := by simpa using h1
      have t2 : decide (b < 0) = false := by simpa using h2
      have t3 : decide (16 < a) = false := by simpa using h3
      have t4 : decide (16 < b) = true := by simpa using h4
      clear h
      go_enter Try.func16, Try.ntmps16
      go_wp2_with fail
      go_ret2
      exact ⟨none, 0, by rw [HP.out.1, HP.out.2]; rfl, by rw [HP.out.1]; exact Nat.le_refl _, by omega, by rw [HP.out.1]; exact RX.nil_, Up.refl _⟩
end Go.Proofs.Ytiiebgfjdkkdeaa
