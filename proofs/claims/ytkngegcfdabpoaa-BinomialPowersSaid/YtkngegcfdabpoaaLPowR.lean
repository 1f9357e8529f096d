/-
  The document's Powers.
-/
import Derived.Test.YtkngegcfdabpoaaLPowV
import Derived.Test.YtkngegcfdabpoaaLFp
import Derived.Test.YtkngegcfdabpoaaLDiff
import Derived.Test.YtkngegcfdabpoaaLAt
import Derived.Test.YtkngegcfdabpoaaLApp
import Derived.Test.YtkngegcfdabpoaaLCanR
import Derived.Test.YtkngegcfdabpoaaPH
import Derived.Test.YtkngegcfdabpoaaPF
import Derived.Test.YtkngegcfdabpoaaSched4
namespace Go.Proofs.Ytkngegcfdabpoaa
open Go.RowKit

set_option maxRecDepth 100000 in
set_option maxHeartbeats 6400000 in
theorem rPowers_q {o : Option Nat} {A0 : Option Addr} {cap0 : Nat} {ps : List Rat} {B : Nat} {w : World} (h : RX o w A0 ps) (hB : ∀ q ∈ ps, XB o q B) (hB2 : 2 ≤ B) (hB' : B ≤ 100000) (hl : ps.length ≤ 1000) :
    Calls Try.prog 19 #[.slice A0 ps.length cap0] w (RetLB w (powV ps) (powB ps)) := by
  have HNO := @pow_no ps
  by_cases h33 : ps.length ≤ 33
  · have HP := Lib.hid (pow_yes h33)
    have hq := h.qs hB
    obtain ⟨C, hC⟩ : ∃ C, C = 64 * (B + 1 + 301) + 3 := ⟨_, rfl⟩
    have hCB : C ≤ 7000000 ∧ 19000 ≤ C ∧ B ≤ C := by omega
    obtain ⟨hC1, hC2, hC3⟩ := hCB
    have HQO := Lib.hid (fun K i (hr : K ≤ 64) => show qs (oC ps K i) ≤ C from Nat.le_trans (qs_oC ps (B + 1) hq (by omega) K i hr) (by rw [hC]; exact Nat.add_le_add_right (Nat.mul_le_mul_right _ hr) _))
    have HQI := Lib.hid (qs_getD hq (by omega))
    have HR := Lib.hid (h.iv hB)
    have HEND := Lib.hid (outO_end ps)
    have HPL := Lib.hid (powL_len ps)
    have HPV := Lib.hid (powV_len ps)
    obtain ⟨N, hN⟩ : ∃ L, L = ps.length := ⟨_, rfl⟩
    have HL := Lib.hid hN
    rw [← hN] at hl h33 ⊢
    have t0 : decide (33 < N) = false := by simp; omega
    have t0i : decide ((33 : Int) < (N : Int)) = false := by simp; omega
    have i0 : (N : Int) ≤ 33 := by omega
    clear h hB hN hC hq HNO
    go_enter Try.func19, Try.ntmps19
    go_wp2_with (first
      | (with_reducible refine wpList_makeR rfl _ _ rfl .i64 .i64 (N : Int) (N : Int) N rfl rfl rfl rfl (by omega) ?_))
    intro w1 hB1 U1
    have hO1 := OX.of_zeros C hB1
    rw [outO_start ps] at hO1
    have HO1 := Lib.hid hO1
    obtain ⟨g, hg⟩ : ∃ g, g = w.heap.size := ⟨_, rfl⟩
    have hge : w.heap.size ≤ g := by omega
    rw [← hg] at HO1 ⊢
    have HF0 := Lib.hid (rFromInt_q (w := w1) 1 (by omega) (by omega))
    clear hB1 hO1 hg t0 t0i
    go_wp2_with fail
    refine HF0.out.mono ?_
    rintro e w2 ⟨v2, rfl, hQ2, U2⟩
    obtain ⟨s2, A2, n2, c2, B2, m2, d2, rfl⟩ := hQ2.shape
    have HQ2 := Lib.hid hQ2
    clear hQ2
    go_wp2_with fail
    obtain ⟨w3, hw3⟩ : ∃ w3, w3 = w2.alloc (Obj.cells #[.bool s2, .slice A2 n2 c2, .slice B2 m2 d2] 31) := ⟨_, rfl⟩
    have U3 : Up w2 w3 := by rw [hw3]; exact (Below.refl _ _).alloc (Nat.le_refl _) _
    have b3 : Blk w3 w2.heap.size 31 #[.bool s2, .slice A2 n2 c2, .slice B2 m2 d2] := by rw [hw3]; exact Blk.new' _ _ _ rfl
    rw [← hw3]
    obtain ⟨g3, hg3⟩ : ∃ g, g = w2.heap.size := ⟨_, rfl⟩
    have hg3' : g3 ≠ g := by have := HO1.out.lt; have := U2.size; omega
    rw [← hg3] at b3 ⊢
    have q1 : qs (((1 : Int) : Rat)) ≤ C := Nat.le_trans (qs_int 1 (by omega) (by omega)) (by omega)
    have HR3 := Lib.hid (show RX (some C) w3 (some ⟨g3, 0, none⟩) (rwL 0) from RX.one (m := some C) b3 ((HQ2.out.up U3).iv q1))
    have HO3 := Lib.hid ((HO1.out.up U2).up U3)
    have V3 := U1.trans (U2.trans U3)
    clear hw3 hg3 b3 q1 HO1 HQ2 U1 U2 U3
    go_loopw [5, 6] (fun v iv wr => ∃ k : Nat, ∃ A c, k ≤ N ∧ v = .slice A (k + 1) c ∧ iv = .int .i64 k ∧ Hid (RX (some C) wr A (rwL k) ∧ OX (some C) wr g (outO ps N k 0) ∧ (∀ a, A = some a → a.block ≠ g)) ∧ Up w wr) (fun _ iv _ => N - (intOf iv).toNat)
    case atStart => exact ⟨0, some ⟨g3, 0, none⟩, 1, Nat.zero_le _, rfl, rfl, Lib.hid ⟨HR3.out, HO3.out, fun a e => by injection e with e; subst e; exact hg3'⟩, V3⟩
    case round =>
      obtain ⟨k, A, c, hkN, rfl, rfl, HH, hU⟩ := hrel
      rename World => wo
      clear HR3 HO3 V3
      by_cases hk : k < N
      · have t1 : decide ((k : Int) < (N : Int)) = true := by simp; omega
        have t1n : decide (k < N) = true := by simp; omega
        have i1 : (0 : Int) ≤ k := by omega
        have i2 : (k : Int) < N := by omega
        have HNE := Lib.hid HH.out.2.2
        have HI0 := Lib.hid (And.intro HH.out.1 HH.out.2.1)
        obtain ⟨r, hr⟩ : ∃ r, r = k + 1 := ⟨_, rfl⟩
        have HRK := Lib.hid hr
        have i3 : (r : Int) ≤ 33 := by omega
        have hr33 : r ≤ 33 := by omega
        have hk63 : k ≤ 32 := by omega
        rw [← hr]
        clear HH hr
        go_wp2_with fail
        go_loopw [7] (fun jv wr => ∃ j : Nat, j ≤ r ∧ jv = .int .i64 j ∧ Hid (RX (some C) wr A (rwL k) ∧ OX (some C) wr g (outO ps N k j)) ∧ Up w wr) (fun jv _ => r - (intOf jv).toNat)
        case atStart => exact ⟨0, Nat.zero_le _, rfl, HI0, hU⟩
        case round =>
          obtain ⟨j, hj, rfl, HI, hUo⟩ := hrel
          clear HI0
          by_cases hjr : j < r
          · have t2 : decide ((j : Int) < (r : Int)) = true := by simp; omega
            have t3 : decide (j < r) = true := by simp; omega
            obtain ⟨hrow, hout⟩ := HI.out
            obtain ⟨b, off, s, X, a, cc, Y, m, d, he, hb, hx, c0, c1, c2⟩ := hrow.at_ (k := j) (by rw [rwL_len]; have := HRK.out; omega)
            subst he
            rw [rwL_getD _ _ (by have := HRK.out; omega)] at hx
            have hjN : j < N := by have := HRK.out; omega
            obtain ⟨so, Xo, ao, co, Yo, mo, do_, hox, k0, k1, k2⟩ := hout.at_ (k := j) (by rw [outO_len]; exact hjN)
            rw [outO_at _ _ _ _ hjN] at hox
            obtain ⟨bp, offp, sp, Xp, ap, cp, Yp, mp, dp, he, hbp, hxp, p0, p1, p2⟩ := (HR.out.up hUo).at_ (k := k) (by have := HL.out; omega)
            subst he
            have lg := hout.lt
            have j1 : (0 : Int) ≤ j := by omega
            have j2 : (j : Int) < r := by omega
            have j3 : (j : Int) < N := by omega
            have HM1 := Lib.hid (fun wx (u : Up wr wx) => rMul_q (XV.iv (hxp.up u) (B := B) (Nat.le_refl _)) (XV.iv (hx.up u) (B := C) (Nat.le_refl _)) (by omega))
            have HA1 := Lib.hid (fun wx vx (u : Up wr wx) (h : QV wx vx (ps.getD k 0 * rowC k j)) => rAdd_q (XV.iv (hox.up u) (B := C) (Nat.le_refl _)) (h.iv (Nat.le_trans (qs_mul _ _) (Nat.add_le_add (HQI.out k) (qs_rowC k j (by omega))))) (by omega))
            rw [← oC_next] at HA1
            have HZQ := Lib.hid (HQO.out (k + 1) j (by omega))
            have HST := Lib.hid (outO_step ps N k j)
            obtain ⟨z, hz⟩ : ∃ z, z = oC ps (k + 1) j := ⟨_, rfl⟩
            rw [← hz] at HA1 HZQ HST
            have HJ := Lib.hid (show j < (outO ps N k j).length by rw [outO_len]; exact hjN)
            have HO := Lib.hid hout
            have HRW := Lib.hid hrow
            have HE : Hid (∀ W : World, Up wr W → (W.cell? ⟨g, j * 3, none⟩ = some (.bool so) ∧ W.cell? ⟨g, j * 3 + 1, none⟩ = some (.slice Xo ao co) ∧ W.cell? ⟨g, j * 3 + 2, none⟩ = some (.slice Yo mo do_)) ∧ (W.cell? ⟨bp, offp + k * 3, none⟩ = some (.bool sp) ∧ W.cell? ⟨bp, offp + k * 3 + 1, none⟩ = some (.slice Xp ap cp) ∧ W.cell? ⟨bp, offp + k * 3 + 2, none⟩ = some (.slice Yp mp dp)) ∧ (W.cell? ⟨b, off + j * 3, none⟩ = some (.bool s) ∧ W.cell? ⟨b, off + j * 3 + 1, none⟩ = some (.slice X a cc) ∧ W.cell? ⟨b, off + j * 3 + 2, none⟩ = some (.slice Y m d))) := Lib.hid fun W hW => And.intro (⟨by rw [hW.cell (by exact lg)]; exact k0, by rw [hW.cell (by exact lg)]; exact k1, by rw [hW.cell (by exact lg)]; exact k2⟩) (And.intro (⟨by rw [hW.cell (by exact hbp)]; exact p0, by rw [hW.cell (by exact hbp)]; exact p1, by rw [hW.cell (by exact hbp)]; exact p2⟩) (⟨by rw [hW.cell (by exact hb)]; exact c0, by rw [hW.cell (by exact hb)]; exact c1, by rw [hW.cell (by exact hb)]; exact c2⟩))
            clear hz hox hx hxp hout hrow HI
            go_wp2_with fail
            refine wp_region_noPanic ?_
            refine wp_region_till (S := (fun wx => (wx.cell? ⟨g, j * 3, none⟩ = some (.bool so) ∧ wx.cell? ⟨g, j * 3 + 1, none⟩ = some (.slice Xo ao co) ∧ wx.cell? ⟨g, j * 3 + 2, none⟩ = some (.slice Yo mo do_)) ∧ (wx.cell? ⟨bp, offp + k * 3, none⟩ = some (.bool sp) ∧ wx.cell? ⟨bp, offp + k * 3 + 1, none⟩ = some (.slice Xp ap cp) ∧ wx.cell? ⟨bp, offp + k * 3 + 2, none⟩ = some (.slice Yp mp dp)) ∧ (wx.cell? ⟨b, off + j * 3, none⟩ = some (.bool s) ∧ wx.cell? ⟨b, off + j * 3 + 1, none⟩ = some (.slice X a cc) ∧ wx.cell? ⟨b, off + j * 3 + 2, none⟩ = some (.slice Y m d)))) 17 [(0, 0), (1, 0), (2, 0), (3, 0), (4, 0), (5, 0), (6, 0), (7, 0), (8, 0), (9, 0), (10, 0), (11, 0), (12, 0), (13, 0), (14, 1), (15, 1), (16, 0)] [17] (by kernel_rfl) (by as_aux_lemma => kernel_rfl) (by as_aux_lemma => kernel_rfl) (by as_aux_lemma => kernel_rfl) (fun _ _ _ _ _ h => h) (HE.out _ (Up.refl wr).drew) ?_
            intro O10 HO10
            refine wpT_take (i := 0) (v := ?_) (by as_aux_lemma => rw [HO10.out]; simp only [List.getElem?_toArray, List.getElem?_cons_zero]; rfl) (Or.inl ⟨(by rfl), ?_⟩) ?_
            rotate_left
            · as_aux_lemma => intro wx hSx; (try dsimp only at hSx); go_simp; try with_reducible rfl
            try simp only [Act.put, List.setIfInBounds_toArray, List.set_cons_zero, List.set_cons_succ]
            refine wpT_take (i := 1) (v := ?_) (by as_aux_lemma => rw [HO10.out]; simp only [List.getElem?_toArray, List.getElem?_cons_succ, List.getElem?_cons_zero]; rfl) (Or.inl ⟨(by rfl), ?_⟩) ?_
            rotate_left
            · as_aux_lemma => intro wx hSx; (try dsimp only at hSx); go_simp; try with_reducible rfl
            try simp only [Act.put, List.setIfInBounds_toArray, List.set_cons_zero, List.set_cons_succ]
            refine wpT_take (i := 2) (v := ?_) (by as_aux_lemma => rw [HO10.out]; simp only [List.getElem?_toArray, List.getElem?_cons_succ, List.getElem?_cons_zero]; rfl) (Or.inl ⟨(by rfl), ?_⟩) ?_
            rotate_left
            · as_aux_lemma => intro wx hSx; (try dsimp only at hSx); go_simp; try with_reducible rfl
            try simp only [Act.put, List.setIfInBounds_toArray, List.set_cons_zero, List.set_cons_succ]
            refine wpT_take (i := 3) (v := ?_) (by as_aux_lemma => rw [HO10.out]; simp only [List.getElem?_toArray, List.getElem?_cons_succ, List.getElem?_cons_zero]; rfl) (Or.inl ⟨(by rfl), ?_⟩) ?_
            rotate_left
            · as_aux_lemma => intro wx hSx; (try dsimp only at hSx); go_simp; try with_reducible rfl
            try simp only [Act.put, List.setIfInBounds_toArray, List.set_cons_zero, List.set_cons_succ]
            refine wpT_take (i := 4) (v := ?_) (by as_aux_lemma => rw [HO10.out]; simp only [List.getElem?_toArray, List.getElem?_cons_succ, List.getElem?_cons_zero]; rfl) (Or.inl ⟨(by rfl), ?_⟩) ?_
            rotate_left
            · as_aux_lemma => intro wx hSx; (try dsimp only at hSx); go_simp; try with_reducible rfl
            try simp only [Act.put, List.setIfInBounds_toArray, List.set_cons_zero, List.set_cons_succ]
            refine wpT_take (i := 5) (v := ?_) (by as_aux_lemma => rw [HO10.out]; simp only [List.getElem?_toArray, List.getElem?_cons_succ, List.getElem?_cons_zero]; rfl) (Or.inl ⟨(by rfl), ?_⟩) ?_
            rotate_left
            · as_aux_lemma => intro wx hSx; (try dsimp only at hSx); go_simp; try with_reducible rfl
            try simp only [Act.put, List.setIfInBounds_toArray, List.set_cons_zero, List.set_cons_succ]
            refine wpT_take (i := 6) (v := ?_) (by as_aux_lemma => rw [HO10.out]; simp only [List.getElem?_toArray, List.getElem?_cons_succ, List.getElem?_cons_zero]; rfl) (Or.inl ⟨(by rfl), ?_⟩) ?_
            rotate_left
            · as_aux_lemma => intro wx hSx; (try dsimp only at hSx); go_simp; try with_reducible rfl
            try simp only [Act.put, List.setIfInBounds_toArray, List.set_cons_zero, List.set_cons_succ]
            refine wpT_take (i := 7) (v := ?_) (by as_aux_lemma => rw [HO10.out]; simp only [List.getElem?_toArray, List.getElem?_cons_succ, List.getElem?_cons_zero]; rfl) (Or.inl ⟨(by rfl), ?_⟩) ?_
            rotate_left
            · as_aux_lemma => intro wx hSx; (try dsimp only at hSx); go_simp; try with_reducible rfl
            try simp only [Act.put, List.setIfInBounds_toArray, List.set_cons_zero, List.set_cons_succ]
            refine wpT_take (i := 8) (v := ?_) (by as_aux_lemma => rw [HO10.out]; simp only [List.getElem?_toArray, List.getElem?_cons_succ, List.getElem?_cons_zero]; rfl) (Or.inl ⟨(by rfl), ?_⟩) ?_
            rotate_left
            · as_aux_lemma => intro wx hSx; (try dsimp only at hSx); go_simp; try with_reducible rfl
            try simp only [Act.put, List.setIfInBounds_toArray, List.set_cons_zero, List.set_cons_succ]
            refine wpT_take (i := 9) (v := ?_) (by as_aux_lemma => rw [HO10.out]; simp only [List.getElem?_toArray, List.getElem?_cons_succ, List.getElem?_cons_zero]; rfl) (Or.inl ⟨(by rfl), ?_⟩) ?_
            rotate_left
            · as_aux_lemma => intro wx hSx; (try dsimp only at hSx); go_simp; try with_reducible rfl
            try simp only [Act.put, List.setIfInBounds_toArray, List.set_cons_zero, List.set_cons_succ]
            refine wpT_take (i := 10) (v := ?_) (by as_aux_lemma => rw [HO10.out]; simp only [List.getElem?_toArray, List.getElem?_cons_succ, List.getElem?_cons_zero]; rfl) (Or.inl ⟨(by rfl), ?_⟩) ?_
            rotate_left
            · as_aux_lemma => intro wx hSx; (try dsimp only at hSx); go_simp; try with_reducible rfl
            try simp only [Act.put, List.setIfInBounds_toArray, List.set_cons_zero, List.set_cons_succ]
            refine wpT_take (i := 11) (v := ?_) (by as_aux_lemma => rw [HO10.out]; simp only [List.getElem?_toArray, List.getElem?_cons_succ, List.getElem?_cons_zero]; rfl) (Or.inl ⟨(by rfl), ?_⟩) ?_
            rotate_left
            · as_aux_lemma => intro wx hSx; (try dsimp only at hSx); go_simp; try with_reducible rfl
            try simp only [Act.put, List.setIfInBounds_toArray, List.set_cons_zero, List.set_cons_succ]
            refine wpT_take (i := 12) (v := ?_) (by as_aux_lemma => rw [HO10.out]; simp only [List.getElem?_toArray, List.getElem?_cons_succ, List.getElem?_cons_zero]; rfl) (Or.inl ⟨(by rfl), ?_⟩) ?_
            rotate_left
            · as_aux_lemma => intro wx hSx; (try dsimp only at hSx); go_simp; try with_reducible rfl
            try simp only [Act.put, List.setIfInBounds_toArray, List.set_cons_zero, List.set_cons_succ]
            refine wpT_take (i := 13) (v := ?_) (by as_aux_lemma => rw [HO10.out]; simp only [List.getElem?_toArray, List.getElem?_cons_succ, List.getElem?_cons_zero]; rfl) (Or.inl ⟨(by rfl), ?_⟩) ?_
            rotate_left
            · as_aux_lemma => intro wx hSx; (try dsimp only at hSx); go_simp; try with_reducible rfl
            try simp only [Act.put, List.setIfInBounds_toArray, List.set_cons_zero, List.set_cons_succ]
            refine wpT_call (i := 14) (by as_aux_lemma => rw [HO10.out]; simp only [List.getElem?_toArray, List.getElem?_cons_succ, List.getElem?_cons_zero]; rfl) (by rfl) (fun K' hK => ?_)
            go_simp
            refine (HM1.out _ (Up.refl wr).drew).mono ?_
            rintro e w6 ⟨v6, rfl, hQ6, U6⟩
            obtain ⟨s6, A6, n6, c6, B6, m6, d6, rfl⟩ := hQ6.shape
            have HQ6 := Lib.hid hQ6
            have V6 : Up wr w6 := Up.trans (Up.refl wr).drew U6
            have kk6 := HE.out _ V6
            clear hQ6
            go_wp2_with fail
            refine hK.out _ _ kk6 (fun _ => ?_)
            clear hK K'
            try simp only [Act.put, List.setIfInBounds_toArray, List.set_cons_zero, List.set_cons_succ]
            refine wpT_call (i := 15) (by as_aux_lemma => rw [HO10.out]; simp only [List.getElem?_toArray, List.getElem?_cons_succ, List.getElem?_cons_zero]; rfl) (by rfl) (fun K' hK => ?_)
            go_simp
            refine (HA1.out _ _ V6 HQ6.out).mono ?_
            rintro e w7 ⟨v7, rfl, hQ7, U7⟩
            obtain ⟨s7, A7, n7, c7, B7, m7, d7, rfl⟩ := hQ7.shape
            have HQ7 := Lib.hid hQ7
            have V7 : Up wr w7 := Up.trans V6 U7
            have kk7 := HE.out _ V7
            clear hQ7
            obtain ⟨⟨y0, y1, y2⟩, _⟩ := kk7
            have kk7 := HE.out _ V7
            have f0 := (HO.out.up V7).frozen (j * 3)
            have f1 := (HO.out.up V7).frozen (j * 3 + 1)
            have f2 := (HO.out.up V7).frozen (j * 3 + 2)
            go_wp2_with fail
            refine hK.out _ _ kk7 (fun _ => ?_)
            clear hK K'
            try simp only [Act.put, List.setIfInBounds_toArray, List.set_cons_zero, List.set_cons_succ]
            refine wpT_take (i := 16) (v := ?_) (by as_aux_lemma => rw [HO10.out]; simp only [List.getElem?_toArray, List.getElem?_cons_succ, List.getElem?_cons_zero]; rfl) (Or.inl ⟨(by rfl), ?_⟩) ?_
            rotate_left
            · as_aux_lemma => intro wx hSx; (try dsimp only at hSx); go_simp; try with_reducible rfl
            try simp only [Act.put, List.setIfInBounds_toArray, List.set_cons_zero, List.set_cons_succ]
            refine wpT_tail (i := 17) (by as_aux_lemma => rw [HO10.out]; simp only [List.getElem?_toArray, List.getElem?_cons_succ, List.getElem?_cons_zero]; rfl) (by rfl) (fun K' hK => ?_)
            go_simp
            go_wp2_with fail
            refine hK.out _ _ ?_
            clear hK K'
            try simp only [Act.put, List.setIfInBounds_toArray, List.set_cons_zero, List.set_cons_succ]
            refine wpT_end (NoPanic.normal ?_)
            clear HO10 O10
            have HO9 := (HO.out.up V7).put (o := some C) HJ.out (q := z) (HQ7.out.iv HZQ.out)
            rw [HST.out] at HO9
            have HR9 := (HRW.out.up V7).far ((HO.out.up V7).kp_put (j * 3) (.bool s7) (.slice A7 n7 c7) (.slice B7 m7 d7)) (put3_only w7 g (j * 3) (.bool s7) (.slice A7 n7 c7) (.slice B7 m7 d7)) (fun a e _ => HNE.out a e)
            have U9 := up_put (hUo.trans V7) hge (j * 3) (.bool s7) (.slice A7 n7 c7) (.slice B7 m7 d7)
            have HH9 := Lib.hid (And.intro HR9 HO9)
            clear HR9 HO9
            go_wp2_with fail
            rw [put3_eq]
            go_roundw
            case rel => exact ⟨j + 1, by omega, by go_num, HH9, U9⟩
            case measure => simp [intOf]; omega
          · have t2 : decide ((j : Int) < (r : Int)) = false := by simp; omega
            have t3 : decide (j < r) = false := by simp; omega
            obtain rfl : r = j := by omega
            rename World => wp
            have HOU := Lib.hid (show OX (some C) wp g (outO ps N (k + 1) 0) from by have h := HI.out.2; rw [HRK.out, outO_next] at h; exact h)
            have HROW := Lib.hid HI.out.1
            clear HI
            go_wp2_with (first
              | (with_reducible refine wpList_makeR rfl _ _ rfl .i64 .i64 ((r : Int) + 1) ((r : Int) + 1) (r + 1) rfl rfl (by omega) (by omega) (by omega) ?_))
            intro w4 hB4 U4
            have hO4 := OX.of_zeros C hB4
            rw [show r + 1 = k + 2 by have := HRK.out; omega, nxRL_start] at hO4
            have HO4 := Lib.hid hO4
            obtain ⟨g2, hg2⟩ : ∃ g, g = wp.heap.size := ⟨_, rfl⟩
            have hg2' : wp.heap.size ≤ g2 := by omega
            rw [← hg2] at HO4 ⊢
            clear hB4 hO4 hg2
            go_wp2_with fail
            go_loopw [9] (fun jv wr => ∃ j : Nat, j ≤ r ∧ jv = .int .i64 j ∧ Hid (OX (some C) wr g2 (nxRL k j)) ∧ Up wp wr) (fun jv _ => r - (intOf jv).toNat)
            case atStart => exact ⟨0, Nat.zero_le _, rfl, HO4, U4⟩
            case round =>
              obtain ⟨j, hj, rfl, HO0, hUp⟩ := hrel
              clear HO4 U4 t2 t3
              by_cases hjr : j < r
              · have t2 : decide ((j : Int) < (r : Int)) = true := by simp; omega
                have t3 : decide (j < r) = true := by simp; omega
                obtain ⟨b, off, s, X, a, cc, Y, m, d, he, hb, hx, c0, c1, c2⟩ := (HROW.out.up hUp).at_ (k := j) (by rw [rwL_len]; have := HRK.out; omega)
                subst he
                rw [rwL_getD _ _ (by have := HRK.out; omega)] at hx
                have j1 : (0 : Int) ≤ j := by omega
                have j2 : (j : Int) < r := by omega
                have HF := Lib.hid (fun (wx : World) => rFromInt_q (w := wx) ((k : Int) + 1) (by omega) (by omega))
                have HD := Lib.hid (fun wx vx (u : Up wr wx) (h : QV wx vx (((k : Int) + 1 : Int) : Rat)) => rDiv_q (XV.iv (hx.up u) (B := C) (Nat.le_refl _)) (h.iv (B := 3) (qs_int _ (by omega) (by omega))) (by omega))
                rw [kint_ne] at HD
                have HZC := Lib.hid (qs_rdiv k j (by omega))
                have HUP := Lib.hid (nxRL_up k j (by have := HRK.out; omega))
                have HAT := Lib.hid (nxRL_at k j (by have := HRK.out; omega))
                have HST := Lib.hid (nxRL_step k j)
                obtain ⟨q, hq⟩ : ∃ q, q = rowC k j / (((k : Int) + 1 : Int) : Rat) := ⟨_, rfl⟩
                rw [← hq] at HD HZC HST
                have HE : Hid (∀ W : World, Up wr W → (W.cell? ⟨b, off + j * 3, none⟩ = some (.bool s) ∧ W.cell? ⟨b, off + j * 3 + 1, none⟩ = some (.slice X a cc) ∧ W.cell? ⟨b, off + j * 3 + 2, none⟩ = some (.slice Y m d))) := Lib.hid fun W hW => ⟨by rw [hW.cell (by exact hb)]; exact c0, by rw [hW.cell (by exact hb)]; exact c1, by rw [hW.cell (by exact hb)]; exact c2⟩
                clear hx hq
                have jw : IntKind.i64.wrap ((k : Int) + 1) = (k : Int) + 1 := IntWalk.i64_in _ (by omega)
                go_upto_region 16 with fail
                go_cut [10, 11] from 53 to 92 (fun p v wx => ∃ gx sx Ax nx cx Bx mx dx, p = .pointer (some ⟨gx, 0, none⟩) ∧ v = .bool true ∧ wr.heap.size ≤ gx ∧ Hid (Blk wx gx 31 #[.bool sx, .slice Ax nx cx, .slice Bx mx dx]) ∧ Hid (QV wx (.agg #[.bool sx, .slice Ax nx cx, .slice Bx mx dx]) q) ∧ Up wr wx)
                case first =>
                  refine wp_region_noPanic ?_
                  refine wp_region_plan (S := (fun wx => (wx.cell? ⟨b, off + j * 3, none⟩ = some (.bool s) ∧ wx.cell? ⟨b, off + j * 3 + 1, none⟩ = some (.slice X a cc) ∧ wx.cell? ⟨b, off + j * 3 + 2, none⟩ = some (.slice Y m d)))) (.take 0 (.take 1 (.take 2 (.take 3 (.take 4 (.take 5 (.two 6 11 (.two 7 11 (.take 8 (.take 9 (.take 10 (.one 11 (.one 12 (.take 13 .fin)))))) (.one 7 (.take 8 (.take 9 (.take 10 (.one 12 (.take 13 .fin))))))) (.one 6 (.one 7 (.take 8 (.take 9 (.take 10 (.one 12 (.take 13 .fin)))))))))))))) (by kernel_rfl) (by as_aux_lemma => kernel_rfl) (by as_aux_lemma => kernel_rfl) (fun _ _ _ _ _ h => h) (HE.out _ (Up.refl wr).drew) ?_
                  intro O16 HO16
                  refine wpP_take (i := 0) (v := ?v16x4) (by as_aux_lemma => rw [HO16.out]; simp only [List.getElem?_toArray, List.getElem?_cons_zero]; rfl) (Or.inl ⟨(by rfl), ?y16x4⟩) ?r16x4
                  case y16x4 => as_aux_lemma => intro wx hSx; (try dsimp only at hSx); go_simp; try with_reducible rfl
                  try simp only [Act.put, List.setIfInBounds_toArray, List.set_cons_zero, List.set_cons_succ]
                  refine wpP_take (i := 1) (v := ?v16x5) (by as_aux_lemma => rw [HO16.out]; simp only [List.getElem?_toArray, List.getElem?_cons_succ, List.getElem?_cons_zero]; rfl) (Or.inl ⟨(by rfl), ?y16x5⟩) ?r16x5
                  case y16x5 => as_aux_lemma => intro wx hSx; (try dsimp only at hSx); go_simp; try with_reducible rfl
                  try simp only [Act.put, List.setIfInBounds_toArray, List.set_cons_zero, List.set_cons_succ]
                  refine wpP_take (i := 2) (v := ?v16x6) (by as_aux_lemma => rw [HO16.out]; simp only [List.getElem?_toArray, List.getElem?_cons_succ, List.getElem?_cons_zero]; rfl) (Or.inl ⟨(by rfl), ?y16x6⟩) ?r16x6
                  case y16x6 => as_aux_lemma => intro wx hSx; (try dsimp only at hSx); go_simp; try with_reducible rfl
                  try simp only [Act.put, List.setIfInBounds_toArray, List.set_cons_zero, List.set_cons_succ]
                  refine wpP_take (i := 3) (v := ?v16x7) (by as_aux_lemma => rw [HO16.out]; simp only [List.getElem?_toArray, List.getElem?_cons_succ, List.getElem?_cons_zero]; rfl) (Or.inl ⟨(by rfl), ?y16x7⟩) ?r16x7
                  case y16x7 => as_aux_lemma => intro wx hSx; (try dsimp only at hSx); go_simp; try with_reducible rfl
                  try simp only [Act.put, List.setIfInBounds_toArray, List.set_cons_zero, List.set_cons_succ]
                  refine wpP_take (i := 4) (v := ?v16x8) (by as_aux_lemma => rw [HO16.out]; simp only [List.getElem?_toArray, List.getElem?_cons_succ, List.getElem?_cons_zero]; rfl) (Or.inl ⟨(by rfl), ?y16x8⟩) ?r16x8
                  case y16x8 => as_aux_lemma => intro wx hSx; (try dsimp only at hSx); go_simp; try with_reducible rfl
                  try simp only [Act.put, List.setIfInBounds_toArray, List.set_cons_zero, List.set_cons_succ]
                  refine wpP_take (i := 5) (v := ?v16x9) (by as_aux_lemma => rw [HO16.out]; simp only [List.getElem?_toArray, List.getElem?_cons_succ, List.getElem?_cons_zero]; rfl) (Or.inl ⟨(by rfl), ?y16x9⟩) ?r16x9
                  case y16x9 => as_aux_lemma => intro wx hSx; (try dsimp only at hSx); go_simp; try with_reducible rfl
                  try simp only [Act.put, List.setIfInBounds_toArray, List.set_cons_zero, List.set_cons_succ]
                  refine wpP_two ?_ ?_
                  · refine wpP_one (i := 6) (by as_aux_lemma => rw [HO16.out]; simp only [List.getElem?_toArray, List.getElem?_cons_succ, List.getElem?_cons_zero]; rfl) (by rfl) (fun K' hK => ?_)
                    go_simp
                    refine (HF.out _).mono ?_
                    rintro e w6 ⟨v6, rfl, hQ6, U6⟩
                    obtain ⟨s6, A6, n6, c6, B6, m6, d6, rfl⟩ := hQ6.shape
                    have HQ6 := Lib.hid hQ6
                    have V6 : Up wr w6 := Up.trans (Up.refl wr).drew U6
                    have kk6 := HE.out _ V6
                    clear hQ6
                    go_wp2_with fail
                    refine hK.out _ _ kk6 (fun _ => ?_)
                    clear hK K'
                    try simp only [Act.put, List.setIfInBounds_toArray, List.set_cons_zero, List.set_cons_succ]
                    refine wpP_two ?_ ?_
                    · refine wpP_one (i := 7) (by as_aux_lemma => rw [HO16.out]; simp only [List.getElem?_toArray, List.getElem?_cons_succ, List.getElem?_cons_zero]; rfl) (by rfl) (fun K' hK => ?_)
                      go_simp
                      refine (HD.out _ _ V6 HQ6.out).mono ?_
                      rintro e w7 ⟨v7, rfl, hQ7, U7⟩
                      obtain ⟨s7, A7, n7, c7, B7, m7, d7, rfl⟩ := hQ7.shape
                      have HQ7 := Lib.hid hQ7
                      have V7 : Up wr w7 := Up.trans V6 U7
                      have kk7 := HE.out _ V7
                      clear hQ7
                      go_wp2_with fail
                      refine hK.out _ _ kk7 (fun _ => ?_)
                      clear hK K'
                      try simp only [Act.put, List.setIfInBounds_toArray, List.set_cons_zero, List.set_cons_succ]
                      refine wpP_take (i := 8) (v := ?v16x1) (by as_aux_lemma => rw [HO16.out]; simp only [List.getElem?_toArray, List.getElem?_cons_succ, List.getElem?_cons_zero]; rfl) (Or.inl ⟨(by rfl), ?y16x1⟩) ?r16x1
                      case y16x1 => as_aux_lemma => intro wx hSx; (try dsimp only at hSx); go_simp; try with_reducible rfl
                      try simp only [Act.put, List.setIfInBounds_toArray, List.set_cons_zero, List.set_cons_succ]
                      refine wpP_take (i := 9) (v := ?v16x2) (by as_aux_lemma => rw [HO16.out]; simp only [List.getElem?_toArray, List.getElem?_cons_succ, List.getElem?_cons_zero]; rfl) (Or.inl ⟨(by rfl), ?y16x2⟩) ?r16x2
                      case y16x2 => as_aux_lemma => intro wx hSx; (try dsimp only at hSx); go_simp; try with_reducible rfl
                      try simp only [Act.put, List.setIfInBounds_toArray, List.set_cons_zero, List.set_cons_succ]
                      refine wpP_take (i := 10) (v := ?v16x3) (by as_aux_lemma => rw [HO16.out]; simp only [List.getElem?_toArray, List.getElem?_cons_succ, List.getElem?_cons_zero]; rfl) (Or.inl ⟨(by rfl), ?y16x3⟩) ?r16x3
                      case y16x3 => as_aux_lemma => intro wx hSx; (try dsimp only at hSx); go_simp; try with_reducible rfl
                      try simp only [Act.put, List.setIfInBounds_toArray, List.set_cons_zero, List.set_cons_succ]
                      refine wpP_one (i := 11) (by as_aux_lemma => rw [HO16.out]; simp only [List.getElem?_toArray, List.getElem?_cons_succ, List.getElem?_cons_zero]; rfl) (by rfl) (fun K' hK => ?_)
                      go_simp
                      go_wp2_with fail
                      obtain ⟨wa, hwa⟩ : ∃ x, x = w7.alloc (Obj.cells #[.bool false, .slice none 0 0, .slice none 0 0] 31) := ⟨_, rfl⟩
                      have Ua : Up w7 wa := by rw [hwa]; exact (Below.refl _ _).alloc (Nat.le_refl _) _
                      have Va : Up wr wa := Up.trans V7 Ua
                      have bza : Blk wa w7.heap.size 31 #[.bool false, .slice none 0 0, .slice none 0 0] := by rw [hwa]; exact Blk.new' _ _ _ rfl
                      have hgb : wr.heap.size ≤ w7.heap.size := Below.size V7
                      have kka := HE.out _ Va
                      obtain ⟨ga, hga2⟩ : ∃ x, x = w7.heap.size := ⟨_, rfl⟩
                      have hga : wr.heap.size ≤ ga := by rw [hga2]; exact hgb
                      rw [← hga2] at bza ⊢
                      rw [← hwa]
                      clear hwa
                      clear hga2 hgb
                      refine hK.out _ _ kka (fun _ => ?_)
                      clear hK K'
                      try simp only [Act.put, List.setIfInBounds_toArray, List.set_cons_zero, List.set_cons_succ]
                      have bzs : Blk wa ga 31 #[.bool false, .slice none 0 0, .slice none 0 0] := bza
                      obtain ⟨z0, z1, z2⟩ := tri bzs
                      have f0 := bzs.frozen 0
                      have f1 := bzs.frozen 1
                      have f2 := bzs.frozen 2
                      refine wpP_one (i := 12) (by as_aux_lemma => rw [HO16.out]; simp only [List.getElem?_toArray, List.getElem?_cons_succ, List.getElem?_cons_zero]; rfl) (by rfl) (fun K' hK => ?_)
                      go_simp
                      go_wp2_with fail
                      have HB := Lib.hid (tri_set bzs (.bool s7) (.slice A7 n7 c7) (.slice B7 m7 d7))
                      have HQB := Lib.hid (QV.kp (HQ7.out.up Ua) (Kp.tri (Kp.refl wa) bzs (s' := s7) (C := A7) (m := n7) (d := c7) (C' := B7) (m' := m7) (d' := d7)))
                      have HUB := up_tri (g := ga) (w := wr) Va hga (.bool s7) (.slice A7 n7 c7) (.slice B7 m7 d7)
                      refine hK.out _ _ (HE.out _ HUB) (fun _ => ?_)
                      clear hK K'
                      try simp only [Act.put, List.setIfInBounds_toArray, List.set_cons_zero, List.set_cons_succ]
                      refine wpP_take (i := 13) (v := ?v16x10) (by as_aux_lemma => rw [HO16.out]; simp only [List.getElem?_toArray, List.getElem?_cons_succ, List.getElem?_cons_zero]; rfl) (Or.inl ⟨(by rfl), ?y16x10⟩) ?r16x10
                      case y16x10 => as_aux_lemma => intro wx hSx; (try dsimp only at hSx); go_simp; try with_reducible rfl
                      try simp only [Act.put, List.setIfInBounds_toArray, List.set_cons_zero, List.set_cons_succ]
                      refine wpP_end (NoPanic.normal ?_)
                      go_wp2_with fail
                      go_meet
                      exact ⟨ga, s7, A7, n7, c7, B7, m7, d7, rfl, rfl, hga, HB, HQB, HUB⟩
                    · refine wpP_one (i := 11) (by as_aux_lemma => rw [HO16.out]; simp only [List.getElem?_toArray, List.getElem?_cons_succ, List.getElem?_cons_zero]; rfl) (by rfl) (fun K' hK => ?_)
                      go_simp
                      go_wp2_with fail
                      obtain ⟨wa, hwa⟩ : ∃ x, x = w6.alloc (Obj.cells #[.bool false, .slice none 0 0, .slice none 0 0] 31) := ⟨_, rfl⟩
                      have Ua : Up w6 wa := by rw [hwa]; exact (Below.refl _ _).alloc (Nat.le_refl _) _
                      have Va : Up wr wa := Up.trans V6 Ua
                      have bza : Blk wa w6.heap.size 31 #[.bool false, .slice none 0 0, .slice none 0 0] := by rw [hwa]; exact Blk.new' _ _ _ rfl
                      have hgb : wr.heap.size ≤ w6.heap.size := Below.size V6
                      have kka := HE.out _ Va
                      obtain ⟨ga, hga2⟩ : ∃ x, x = w6.heap.size := ⟨_, rfl⟩
                      have hga : wr.heap.size ≤ ga := by rw [hga2]; exact hgb
                      rw [← hga2] at bza ⊢
                      rw [← hwa]
                      clear hwa
                      clear hga2 hgb
                      refine hK.out _ _ kka (fun _ => ?_)
                      clear hK K'
                      try simp only [Act.put, List.setIfInBounds_toArray, List.set_cons_zero, List.set_cons_succ]
                      refine wpP_one (i := 7) (by as_aux_lemma => rw [HO16.out]; simp only [List.getElem?_toArray, List.getElem?_cons_succ, List.getElem?_cons_zero]; rfl) (by rfl) (fun K' hK => ?_)
                      go_simp
                      refine (HD.out _ _ Va (HQ6.out.up Ua)).mono ?_
                      rintro e w7 ⟨v7, rfl, hQ7, U7⟩
                      obtain ⟨s7, A7, n7, c7, B7, m7, d7, rfl⟩ := hQ7.shape
                      have HQ7 := Lib.hid hQ7
                      have V7 : Up wr w7 := Up.trans Va U7
                      have kk7 := HE.out _ V7
                      clear hQ7
                      go_wp2_with fail
                      refine hK.out _ _ kk7 (fun _ => ?_)
                      clear hK K'
                      try simp only [Act.put, List.setIfInBounds_toArray, List.set_cons_zero, List.set_cons_succ]
                      refine wpP_take (i := 8) (v := ?v16x11) (by as_aux_lemma => rw [HO16.out]; simp only [List.getElem?_toArray, List.getElem?_cons_succ, List.getElem?_cons_zero]; rfl) (Or.inl ⟨(by rfl), ?y16x11⟩) ?r16x11
                      case y16x11 => as_aux_lemma => intro wx hSx; (try dsimp only at hSx); go_simp; try with_reducible rfl
                      try simp only [Act.put, List.setIfInBounds_toArray, List.set_cons_zero, List.set_cons_succ]
                      refine wpP_take (i := 9) (v := ?v16x12) (by as_aux_lemma => rw [HO16.out]; simp only [List.getElem?_toArray, List.getElem?_cons_succ, List.getElem?_cons_zero]; rfl) (Or.inl ⟨(by rfl), ?y16x12⟩) ?r16x12
                      case y16x12 => as_aux_lemma => intro wx hSx; (try dsimp only at hSx); go_simp; try with_reducible rfl
                      try simp only [Act.put, List.setIfInBounds_toArray, List.set_cons_zero, List.set_cons_succ]
                      refine wpP_take (i := 10) (v := ?v16x13) (by as_aux_lemma => rw [HO16.out]; simp only [List.getElem?_toArray, List.getElem?_cons_succ, List.getElem?_cons_zero]; rfl) (Or.inl ⟨(by rfl), ?y16x13⟩) ?r16x13
                      case y16x13 => as_aux_lemma => intro wx hSx; (try dsimp only at hSx); go_simp; try with_reducible rfl
                      try simp only [Act.put, List.setIfInBounds_toArray, List.set_cons_zero, List.set_cons_succ]
                      have bzs : Blk w7 ga 31 #[.bool false, .slice none 0 0, .slice none 0 0] := (bza.up U7)
                      obtain ⟨z0, z1, z2⟩ := tri bzs
                      have f0 := bzs.frozen 0
                      have f1 := bzs.frozen 1
                      have f2 := bzs.frozen 2
                      refine wpP_one (i := 12) (by as_aux_lemma => rw [HO16.out]; simp only [List.getElem?_toArray, List.getElem?_cons_succ, List.getElem?_cons_zero]; rfl) (by rfl) (fun K' hK => ?_)
                      go_simp
                      go_wp2_with fail
                      have HB := Lib.hid (tri_set bzs (.bool s7) (.slice A7 n7 c7) (.slice B7 m7 d7))
                      have HQB := Lib.hid (QV.kp HQ7.out (Kp.tri (Kp.refl w7) bzs (s' := s7) (C := A7) (m := n7) (d := c7) (C' := B7) (m' := m7) (d' := d7)))
                      have HUB := up_tri (g := ga) (w := wr) V7 hga (.bool s7) (.slice A7 n7 c7) (.slice B7 m7 d7)
                      refine hK.out _ _ (HE.out _ HUB) (fun _ => ?_)
                      clear hK K'
                      try simp only [Act.put, List.setIfInBounds_toArray, List.set_cons_zero, List.set_cons_succ]
                      refine wpP_take (i := 13) (v := ?v16x14) (by as_aux_lemma => rw [HO16.out]; simp only [List.getElem?_toArray, List.getElem?_cons_succ, List.getElem?_cons_zero]; rfl) (Or.inl ⟨(by rfl), ?y16x14⟩) ?r16x14
                      case y16x14 => as_aux_lemma => intro wx hSx; (try dsimp only at hSx); go_simp; try with_reducible rfl
                      try simp only [Act.put, List.setIfInBounds_toArray, List.set_cons_zero, List.set_cons_succ]
                      refine wpP_end (NoPanic.normal ?_)
                      go_wp2_with fail
                      go_meet
                      exact ⟨ga, s7, A7, n7, c7, B7, m7, d7, rfl, rfl, hga, HB, HQB, HUB⟩
                  · refine wpP_one (i := 11) (by as_aux_lemma => rw [HO16.out]; simp only [List.getElem?_toArray, List.getElem?_cons_succ, List.getElem?_cons_zero]; rfl) (by rfl) (fun K' hK => ?_)
                    go_simp
                    go_wp2_with fail
                    obtain ⟨wa, hwa⟩ : ∃ x, x = (wr.alloc (Obj.cells #[.bool false, .slice none 0 0, .slice none 0 0] 31)).drew := ⟨_, rfl⟩
                    have Va : Up wr wa := by rw [hwa]; exact ((Below.refl _ _).alloc (Nat.le_refl _) _).drew
                    have bza : Blk wa wr.heap.size 31 #[.bool false, .slice none 0 0, .slice none 0 0] := by rw [hwa]; exact Blk.drew (Blk.new' _ _ _ rfl)
                    have hgb : wr.heap.size ≤ wr.heap.size := Nat.le_refl _
                    have kka := HE.out _ Va
                    obtain ⟨ga, hga2⟩ : ∃ x, x = wr.heap.size := ⟨_, rfl⟩
                    have hga : wr.heap.size ≤ ga := by rw [hga2]; exact hgb
                    rw [← hga2] at bza ⊢
                    rw [← hwa]
                    clear hwa
                    clear hga2 hgb
                    refine hK.out _ _ kka (fun _ => ?_)
                    clear hK K'
                    try simp only [Act.put, List.setIfInBounds_toArray, List.set_cons_zero, List.set_cons_succ]
                    refine wpP_one (i := 6) (by as_aux_lemma => rw [HO16.out]; simp only [List.getElem?_toArray, List.getElem?_cons_succ, List.getElem?_cons_zero]; rfl) (by rfl) (fun K' hK => ?_)
                    go_simp
                    refine (HF.out _).mono ?_
                    rintro e w6 ⟨v6, rfl, hQ6, U6⟩
                    obtain ⟨s6, A6, n6, c6, B6, m6, d6, rfl⟩ := hQ6.shape
                    have HQ6 := Lib.hid hQ6
                    have V6 : Up wr w6 := Up.trans Va U6
                    have kk6 := HE.out _ V6
                    clear hQ6
                    go_wp2_with fail
                    refine hK.out _ _ kk6 (fun _ => ?_)
                    clear hK K'
                    try simp only [Act.put, List.setIfInBounds_toArray, List.set_cons_zero, List.set_cons_succ]
                    refine wpP_one (i := 7) (by as_aux_lemma => rw [HO16.out]; simp only [List.getElem?_toArray, List.getElem?_cons_succ, List.getElem?_cons_zero]; rfl) (by rfl) (fun K' hK => ?_)
                    go_simp
                    refine (HD.out _ _ V6 HQ6.out).mono ?_
                    rintro e w7 ⟨v7, rfl, hQ7, U7⟩
                    obtain ⟨s7, A7, n7, c7, B7, m7, d7, rfl⟩ := hQ7.shape
                    have HQ7 := Lib.hid hQ7
                    have V7 : Up wr w7 := Up.trans V6 U7
                    have kk7 := HE.out _ V7
                    clear hQ7
                    go_wp2_with fail
                    refine hK.out _ _ kk7 (fun _ => ?_)
                    clear hK K'
                    try simp only [Act.put, List.setIfInBounds_toArray, List.set_cons_zero, List.set_cons_succ]
                    refine wpP_take (i := 8) (v := ?v16x15) (by as_aux_lemma => rw [HO16.out]; simp only [List.getElem?_toArray, List.getElem?_cons_succ, List.getElem?_cons_zero]; rfl) (Or.inl ⟨(by rfl), ?y16x15⟩) ?r16x15
                    case y16x15 => as_aux_lemma => intro wx hSx; (try dsimp only at hSx); go_simp; try with_reducible rfl
                    try simp only [Act.put, List.setIfInBounds_toArray, List.set_cons_zero, List.set_cons_succ]
                    refine wpP_take (i := 9) (v := ?v16x16) (by as_aux_lemma => rw [HO16.out]; simp only [List.getElem?_toArray, List.getElem?_cons_succ, List.getElem?_cons_zero]; rfl) (Or.inl ⟨(by rfl), ?y16x16⟩) ?r16x16
                    case y16x16 => as_aux_lemma => intro wx hSx; (try dsimp only at hSx); go_simp; try with_reducible rfl
                    try simp only [Act.put, List.setIfInBounds_toArray, List.set_cons_zero, List.set_cons_succ]
                    refine wpP_take (i := 10) (v := ?v16x17) (by as_aux_lemma => rw [HO16.out]; simp only [List.getElem?_toArray, List.getElem?_cons_succ, List.getElem?_cons_zero]; rfl) (Or.inl ⟨(by rfl), ?y16x17⟩) ?r16x17
                    case y16x17 => as_aux_lemma => intro wx hSx; (try dsimp only at hSx); go_simp; try with_reducible rfl
                    try simp only [Act.put, List.setIfInBounds_toArray, List.set_cons_zero, List.set_cons_succ]
                    have bzs : Blk w7 ga 31 #[.bool false, .slice none 0 0, .slice none 0 0] := ((bza.up U6).up U7)
                    obtain ⟨z0, z1, z2⟩ := tri bzs
                    have f0 := bzs.frozen 0
                    have f1 := bzs.frozen 1
                    have f2 := bzs.frozen 2
                    refine wpP_one (i := 12) (by as_aux_lemma => rw [HO16.out]; simp only [List.getElem?_toArray, List.getElem?_cons_succ, List.getElem?_cons_zero]; rfl) (by rfl) (fun K' hK => ?_)
                    go_simp
                    go_wp2_with fail
                    have HB := Lib.hid (tri_set bzs (.bool s7) (.slice A7 n7 c7) (.slice B7 m7 d7))
                    have HQB := Lib.hid (QV.kp HQ7.out (Kp.tri (Kp.refl w7) bzs (s' := s7) (C := A7) (m := n7) (d := c7) (C' := B7) (m' := m7) (d' := d7)))
                    have HUB := up_tri (g := ga) (w := wr) V7 hga (.bool s7) (.slice A7 n7 c7) (.slice B7 m7 d7)
                    refine hK.out _ _ (HE.out _ HUB) (fun _ => ?_)
                    clear hK K'
                    try simp only [Act.put, List.setIfInBounds_toArray, List.set_cons_zero, List.set_cons_succ]
                    refine wpP_take (i := 13) (v := ?v16x18) (by as_aux_lemma => rw [HO16.out]; simp only [List.getElem?_toArray, List.getElem?_cons_succ, List.getElem?_cons_zero]; rfl) (Or.inl ⟨(by rfl), ?y16x18⟩) ?r16x18
                    case y16x18 => as_aux_lemma => intro wx hSx; (try dsimp only at hSx); go_simp; try with_reducible rfl
                    try simp only [Act.put, List.setIfInBounds_toArray, List.set_cons_zero, List.set_cons_succ]
                    refine wpP_end (NoPanic.normal ?_)
                    go_wp2_with fail
                    go_meet
                    exact ⟨ga, s7, A7, n7, c7, B7, m7, d7, rfl, rfl, hga, HB, HQB, HUB⟩
                obtain ⟨gx, sx, Ax, nx, cx, Bx, mx, dx, rfl, rfl, hgx, HBX, HQX, hU5⟩ := hcut
                clear HE c0 c1 c2 HF HD jw
                rename World => w5
                have bx := HBX.out
                have HO := Lib.hid (HO0.out.up hU5)
                have hgx2 : gx ≠ g2 := by have := HO0.out.lt; omega
                obtain ⟨so, Xo, ao, co, Yo, mo, do_, hox, k0, k1, k2⟩ := HO.out.at_ (k := j + 1) (by rw [nxRL_len]; have := HRK.out; omega)
                have lg := HO.out.lt
                have HA2 := Lib.hid (fun wx (u : Up w5 wx) => rAdd_q (XV.iv (hox.up u) (B := C) (Nat.le_refl _)) ((HQX.out.up u).iv HZC.out) (by omega))
                rw [HUP.out] at HA2
                have HJ1 := Lib.hid (show j + 1 < (nxRL k j).length by rw [nxRL_len]; have := HRK.out; omega)
                have x9 := bx.lt
                have HE : Hid (∀ W : World, Up w5 W → (W.cell? ⟨g2, (j + 1) * 3, none⟩ = some (.bool so) ∧ W.cell? ⟨g2, (j + 1) * 3 + 1, none⟩ = some (.slice Xo ao co) ∧ W.cell? ⟨g2, (j + 1) * 3 + 2, none⟩ = some (.slice Yo mo do_)) ∧ (W.cell? ⟨gx, 0, none⟩ = some (.bool sx) ∧ W.cell? ⟨gx, 1, none⟩ = some (.slice Ax nx cx) ∧ W.cell? ⟨gx, 2, none⟩ = some (.slice Bx mx dx))) := Lib.hid fun W hW => And.intro (⟨by rw [hW.cell (by exact lg)]; exact k0, by rw [hW.cell (by exact lg)]; exact k1, by rw [hW.cell (by exact lg)]; exact k2⟩) (tri (bx.up hW))
                have j3 : (0 : Int) ≤ (j : Int) + 1 := by omega
                have j4 : (j : Int) + 1 < (r : Int) + 1 := by omega
                have j5 : IntKind.i64.wrap ((j : Int) + 1) = (j : Int) + 1 := IntWalk.i64_in _ (by omega)
                have j6 : ((j : Int) + 1).toNat = j + 1 := by omega
                clear hox HO0
                go_wp2_with fail
                refine wp_region_noPanic ?_
                refine wp_region_till (S := (fun wx => (wx.cell? ⟨g2, (j + 1) * 3, none⟩ = some (.bool so) ∧ wx.cell? ⟨g2, (j + 1) * 3 + 1, none⟩ = some (.slice Xo ao co) ∧ wx.cell? ⟨g2, (j + 1) * 3 + 2, none⟩ = some (.slice Yo mo do_)) ∧ (wx.cell? ⟨gx, 0, none⟩ = some (.bool sx) ∧ wx.cell? ⟨gx, 1, none⟩ = some (.slice Ax nx cx) ∧ wx.cell? ⟨gx, 2, none⟩ = some (.slice Bx mx dx)))) 11 [(0, 0), (1, 0), (2, 0), (3, 0), (4, 0), (5, 0), (6, 0), (7, 0), (8, 0), (9, 1), (10, 0)] [11] (by kernel_rfl) (by as_aux_lemma => kernel_rfl) (by as_aux_lemma => kernel_rfl) (by as_aux_lemma => kernel_rfl) (fun _ _ _ _ _ h => h) (HE.out _ (Up.refl w5).drew) ?_
                intro O11 HO11
                refine wpT_take (i := 0) (v := ?_) (by as_aux_lemma => rw [HO11.out]; simp only [List.getElem?_toArray, List.getElem?_cons_zero]; rfl) (Or.inl ⟨(by rfl), ?_⟩) ?_
                rotate_left
                · as_aux_lemma => intro wx hSx; (try dsimp only at hSx); go_simp; try with_reducible rfl
                try simp only [Act.put, List.setIfInBounds_toArray, List.set_cons_zero, List.set_cons_succ]
                refine wpT_take (i := 1) (v := ?_) (by as_aux_lemma => rw [HO11.out]; simp only [List.getElem?_toArray, List.getElem?_cons_succ, List.getElem?_cons_zero]; rfl) (Or.inl ⟨(by rfl), ?_⟩) ?_
                rotate_left
                · as_aux_lemma => intro wx hSx; (try dsimp only at hSx); go_simp; try with_reducible rfl
                try simp only [Act.put, List.setIfInBounds_toArray, List.set_cons_zero, List.set_cons_succ]
                refine wpT_take (i := 2) (v := ?_) (by as_aux_lemma => rw [HO11.out]; simp only [List.getElem?_toArray, List.getElem?_cons_succ, List.getElem?_cons_zero]; rfl) (Or.inl ⟨(by rfl), ?_⟩) ?_
                rotate_left
                · as_aux_lemma => intro wx hSx; (try dsimp only at hSx); go_simp; try with_reducible rfl
                try simp only [Act.put, List.setIfInBounds_toArray, List.set_cons_zero, List.set_cons_succ]
                refine wpT_take (i := 3) (v := ?_) (by as_aux_lemma => rw [HO11.out]; simp only [List.getElem?_toArray, List.getElem?_cons_succ, List.getElem?_cons_zero]; rfl) (Or.inl ⟨(by rfl), ?_⟩) ?_
                rotate_left
                · as_aux_lemma => intro wx hSx; (try dsimp only at hSx); go_simp; try with_reducible rfl
                try simp only [Act.put, List.setIfInBounds_toArray, List.set_cons_zero, List.set_cons_succ]
                refine wpT_take (i := 4) (v := ?_) (by as_aux_lemma => rw [HO11.out]; simp only [List.getElem?_toArray, List.getElem?_cons_succ, List.getElem?_cons_zero]; rfl) (Or.inl ⟨(by rfl), ?_⟩) ?_
                rotate_left
                · as_aux_lemma => intro wx hSx; (try dsimp only at hSx); go_simp; try with_reducible rfl
                try simp only [Act.put, List.setIfInBounds_toArray, List.set_cons_zero, List.set_cons_succ]
                refine wpT_take (i := 5) (v := ?_) (by as_aux_lemma => rw [HO11.out]; simp only [List.getElem?_toArray, List.getElem?_cons_succ, List.getElem?_cons_zero]; rfl) (Or.inl ⟨(by rfl), ?_⟩) ?_
                rotate_left
                · as_aux_lemma => intro wx hSx; (try dsimp only at hSx); go_simp; try with_reducible rfl
                try simp only [Act.put, List.setIfInBounds_toArray, List.set_cons_zero, List.set_cons_succ]
                refine wpT_take (i := 6) (v := ?_) (by as_aux_lemma => rw [HO11.out]; simp only [List.getElem?_toArray, List.getElem?_cons_succ, List.getElem?_cons_zero]; rfl) (Or.inl ⟨(by rfl), ?_⟩) ?_
                rotate_left
                · as_aux_lemma => intro wx hSx; (try dsimp only at hSx); go_simp; try with_reducible rfl
                try simp only [Act.put, List.setIfInBounds_toArray, List.set_cons_zero, List.set_cons_succ]
                refine wpT_take (i := 7) (v := ?_) (by as_aux_lemma => rw [HO11.out]; simp only [List.getElem?_toArray, List.getElem?_cons_succ, List.getElem?_cons_zero]; rfl) (Or.inl ⟨(by rfl), ?_⟩) ?_
                rotate_left
                · as_aux_lemma => intro wx hSx; (try dsimp only at hSx); go_simp; try with_reducible rfl
                try simp only [Act.put, List.setIfInBounds_toArray, List.set_cons_zero, List.set_cons_succ]
                refine wpT_take (i := 8) (v := ?_) (by as_aux_lemma => rw [HO11.out]; simp only [List.getElem?_toArray, List.getElem?_cons_succ, List.getElem?_cons_zero]; rfl) (Or.inl ⟨(by rfl), ?_⟩) ?_
                rotate_left
                · as_aux_lemma => intro wx hSx; (try dsimp only at hSx); go_simp; try with_reducible rfl
                try simp only [Act.put, List.setIfInBounds_toArray, List.set_cons_zero, List.set_cons_succ]
                refine wpT_call (i := 9) (by as_aux_lemma => rw [HO11.out]; simp only [List.getElem?_toArray, List.getElem?_cons_succ, List.getElem?_cons_zero]; rfl) (by rfl) (fun K' hK => ?_)
                go_simp
                refine (HA2.out _ (Up.refl w5).drew).mono ?_
                rintro e w6 ⟨v6, rfl, hQ6, U6⟩
                obtain ⟨s6, A6, n6, c6, B6, m6, d6, rfl⟩ := hQ6.shape
                have HQ6 := Lib.hid hQ6
                have V6 : Up w5 w6 := Up.trans (Up.refl w5).drew U6
                have kk6 := HE.out _ V6
                clear hQ6
                obtain ⟨⟨y0, y1, y2⟩, _⟩ := kk6
                have kk6 := HE.out _ V6
                have f0 := (HO.out.up V6).frozen ((j + 1) * 3)
                have f1 := (HO.out.up V6).frozen ((j + 1) * 3 + 1)
                have f2 := (HO.out.up V6).frozen ((j + 1) * 3 + 2)
                go_wp2_with fail
                refine hK.out _ _ kk6 (fun _ => ?_)
                clear hK K'
                try simp only [Act.put, List.setIfInBounds_toArray, List.set_cons_zero, List.set_cons_succ]
                refine wpT_take (i := 10) (v := ?_) (by as_aux_lemma => rw [HO11.out]; simp only [List.getElem?_toArray, List.getElem?_cons_succ, List.getElem?_cons_zero]; rfl) (Or.inl ⟨(by rfl), ?_⟩) ?_
                rotate_left
                · as_aux_lemma => intro wx hSx; (try dsimp only at hSx); go_simp; try with_reducible rfl
                try simp only [Act.put, List.setIfInBounds_toArray, List.set_cons_zero, List.set_cons_succ]
                refine wpT_tail (i := 11) (by as_aux_lemma => rw [HO11.out]; simp only [List.getElem?_toArray, List.getElem?_cons_succ, List.getElem?_cons_zero]; rfl) (by rfl) (fun K' hK => ?_)
                go_simp
                go_wp2_with fail
                refine hK.out _ _ ?_
                clear hK K'
                try simp only [Act.put, List.setIfInBounds_toArray, List.set_cons_zero, List.set_cons_succ]
                refine wpT_end (NoPanic.normal ?_)
                clear HO11 O11
                have HO9 := (HO.out.up V6).put (o := some C) HJ1.out (q := q) (HQ6.out.iv (Nat.le_trans HZC.out (by omega)))
                have bx9 := Blk.put3q (bx.up V6) hgx2 ((j + 1) * 3) (.bool s6) (.slice A6 n6 c6) (.slice B6 m6 d6)
                have HQX9 := Lib.hid (QV.kp (HQX.out.up V6) ((HO.out.up V6).kp_put ((j + 1) * 3) (.bool s6) (.slice A6 n6 c6) (.slice B6 m6 d6)))
                have U9 := up_put (hUp.trans (hU5.trans V6)) hg2' ((j + 1) * 3) (.bool s6) (.slice A6 n6 c6) (.slice B6 m6 d6)
                clear j3 j4 j5 j6 k0 k1 k2 HE
                rw [put3_eq]
                obtain ⟨w9, hw9⟩ : ∃ x, x = put3 w6 g2 ((j + 1) * 3) (.bool s6) (.slice A6 n6 c6) (.slice B6 m6 d6) := ⟨_, rfl⟩
                rw [← hw9] at HO9 bx9 HQX9 U9 ⊢
                replace HO9 := Lib.hid HO9
                obtain ⟨s2, X2, a2, c2, Y2, m2, d2, hox, k0, k1, k2⟩ := HO9.out.at_ (k := j) (by rw [List.length_set, nxRL_len]; have := HRK.out; omega)
                rw [HAT.out] at hox
                have lg := HO9.out.lt
                have HF2 := Lib.hid (fun (wx : World) => rFromInt_q (w := wx) (k : Int) (by omega) (by omega))
                have HM2 := Lib.hid (fun wx vx (u : Up w9 wx) (h : QV wx vx (((k : Nat) : Int) : Rat)) => rMul_q ((HQX9.out.up u).iv HZC.out) (h.iv (B := 3) (qs_int _ (by omega) (by omega))) (by omega))
                have HS2 := Lib.hid (fun wx vx (u : Up w9 wx) (h : QV wx vx (q * (((k : Nat) : Int) : Rat))) => rSub_q (XV.iv (hox.up u) (B := C) (Nat.le_refl _)) (h.iv (Nat.le_trans (qs_mul _ _) (Nat.add_le_add HZC.out (qs_int ((k : Nat) : Int) (by omega) (by omega))))) (by omega))
                have HZ2 := Lib.hid (show qs (nxR k j j - q * (((k : Nat) : Int) : Rat)) ≤ C from by
                  have b1 := qs_sub (nxR k j j) (q * (((k : Nat) : Int) : Rat))
                  have b2 := qs_nxR k j j (by omega)
                  have b3 := qs_mul q (((k : Nat) : Int) : Rat)
                  have b4 := qs_int ((k : Nat) : Int) (by omega) (by omega)
                  have b5 := HZC.out
                  omega)
                obtain ⟨z, hz⟩ : ∃ z, z = nxR k j j - q * (((k : Nat) : Int) : Rat) := ⟨_, rfl⟩
                rw [← hz] at HS2 HZ2 HST
                have HJ2 := Lib.hid (show j < ((nxRL k j).set (j + 1) q).length by rw [List.length_set, nxRL_len]; have := HRK.out; omega)
                have j7 : (j : Int) < (r : Int) + 1 := by omega
                have HE : Hid (∀ W : World, Up w9 W → (W.cell? ⟨g2, j * 3, none⟩ = some (.bool s2) ∧ W.cell? ⟨g2, j * 3 + 1, none⟩ = some (.slice X2 a2 c2) ∧ W.cell? ⟨g2, j * 3 + 2, none⟩ = some (.slice Y2 m2 d2)) ∧ (W.cell? ⟨gx, 0, none⟩ = some (.bool sx) ∧ W.cell? ⟨gx, 1, none⟩ = some (.slice Ax nx cx) ∧ W.cell? ⟨gx, 2, none⟩ = some (.slice Bx mx dx))) := Lib.hid fun W hW => And.intro (⟨by rw [hW.cell (by exact lg)]; exact k0, by rw [hW.cell (by exact lg)]; exact k1, by rw [hW.cell (by exact lg)]; exact k2⟩) (tri (bx9.up hW))
                clear hw9 hz hox bx x9
                go_wp2_with fail
                refine wp_region_noPanic ?_
                refine wp_region_till (S := (fun wx => (wx.cell? ⟨g2, j * 3, none⟩ = some (.bool s2) ∧ wx.cell? ⟨g2, j * 3 + 1, none⟩ = some (.slice X2 a2 c2) ∧ wx.cell? ⟨g2, j * 3 + 2, none⟩ = some (.slice Y2 m2 d2)) ∧ (wx.cell? ⟨gx, 0, none⟩ = some (.bool sx) ∧ wx.cell? ⟨gx, 1, none⟩ = some (.slice Ax nx cx) ∧ wx.cell? ⟨gx, 2, none⟩ = some (.slice Bx mx dx)))) 12 [(0, 0), (1, 0), (2, 0), (3, 0), (4, 0), (5, 0), (6, 0), (7, 0), (8, 1), (9, 1), (10, 1), (11, 0)] [12] (by kernel_rfl) (by as_aux_lemma => kernel_rfl) (by as_aux_lemma => kernel_rfl) (by as_aux_lemma => kernel_rfl) (fun _ _ _ _ _ h => h) (HE.out _ (Up.refl w9).drew) ?_
                intro O12 HO12
                refine wpT_take (i := 0) (v := ?_) (by as_aux_lemma => rw [HO12.out]; simp only [List.getElem?_toArray, List.getElem?_cons_zero]; rfl) (Or.inl ⟨(by rfl), ?_⟩) ?_
                rotate_left
                · as_aux_lemma => intro wx hSx; (try dsimp only at hSx); go_simp; try with_reducible rfl
                try simp only [Act.put, List.setIfInBounds_toArray, List.set_cons_zero, List.set_cons_succ]
                refine wpT_take (i := 1) (v := ?_) (by as_aux_lemma => rw [HO12.out]; simp only [List.getElem?_toArray, List.getElem?_cons_succ, List.getElem?_cons_zero]; rfl) (Or.inl ⟨(by rfl), ?_⟩) ?_
                rotate_left
                · as_aux_lemma => intro wx hSx; (try dsimp only at hSx); go_simp; try with_reducible rfl
                try simp only [Act.put, List.setIfInBounds_toArray, List.set_cons_zero, List.set_cons_succ]
                refine wpT_take (i := 2) (v := ?_) (by as_aux_lemma => rw [HO12.out]; simp only [List.getElem?_toArray, List.getElem?_cons_succ, List.getElem?_cons_zero]; rfl) (Or.inl ⟨(by rfl), ?_⟩) ?_
                rotate_left
                · as_aux_lemma => intro wx hSx; (try dsimp only at hSx); go_simp; try with_reducible rfl
                try simp only [Act.put, List.setIfInBounds_toArray, List.set_cons_zero, List.set_cons_succ]
                refine wpT_take (i := 3) (v := ?_) (by as_aux_lemma => rw [HO12.out]; simp only [List.getElem?_toArray, List.getElem?_cons_succ, List.getElem?_cons_zero]; rfl) (Or.inl ⟨(by rfl), ?_⟩) ?_
                rotate_left
                · as_aux_lemma => intro wx hSx; (try dsimp only at hSx); go_simp; try with_reducible rfl
                try simp only [Act.put, List.setIfInBounds_toArray, List.set_cons_zero, List.set_cons_succ]
                refine wpT_take (i := 4) (v := ?_) (by as_aux_lemma => rw [HO12.out]; simp only [List.getElem?_toArray, List.getElem?_cons_succ, List.getElem?_cons_zero]; rfl) (Or.inl ⟨(by rfl), ?_⟩) ?_
                rotate_left
                · as_aux_lemma => intro wx hSx; (try dsimp only at hSx); go_simp; try with_reducible rfl
                try simp only [Act.put, List.setIfInBounds_toArray, List.set_cons_zero, List.set_cons_succ]
                refine wpT_take (i := 5) (v := ?_) (by as_aux_lemma => rw [HO12.out]; simp only [List.getElem?_toArray, List.getElem?_cons_succ, List.getElem?_cons_zero]; rfl) (Or.inl ⟨(by rfl), ?_⟩) ?_
                rotate_left
                · as_aux_lemma => intro wx hSx; (try dsimp only at hSx); go_simp; try with_reducible rfl
                try simp only [Act.put, List.setIfInBounds_toArray, List.set_cons_zero, List.set_cons_succ]
                refine wpT_take (i := 6) (v := ?_) (by as_aux_lemma => rw [HO12.out]; simp only [List.getElem?_toArray, List.getElem?_cons_succ, List.getElem?_cons_zero]; rfl) (Or.inl ⟨(by rfl), ?_⟩) ?_
                rotate_left
                · as_aux_lemma => intro wx hSx; (try dsimp only at hSx); go_simp; try with_reducible rfl
                try simp only [Act.put, List.setIfInBounds_toArray, List.set_cons_zero, List.set_cons_succ]
                refine wpT_take (i := 7) (v := ?_) (by as_aux_lemma => rw [HO12.out]; simp only [List.getElem?_toArray, List.getElem?_cons_succ, List.getElem?_cons_zero]; rfl) (Or.inl ⟨(by rfl), ?_⟩) ?_
                rotate_left
                · as_aux_lemma => intro wx hSx; (try dsimp only at hSx); go_simp; try with_reducible rfl
                try simp only [Act.put, List.setIfInBounds_toArray, List.set_cons_zero, List.set_cons_succ]
                refine wpT_call (i := 8) (by as_aux_lemma => rw [HO12.out]; simp only [List.getElem?_toArray, List.getElem?_cons_succ, List.getElem?_cons_zero]; rfl) (by rfl) (fun K' hK => ?_)
                go_simp
                refine (HF2.out _).mono ?_
                rintro e w10 ⟨v10, rfl, hQ10, U10⟩
                obtain ⟨s10, A10, n10, c10, B10, m10, d10, rfl⟩ := hQ10.shape
                have HQ10 := Lib.hid hQ10
                have V10 : Up w9 w10 := Up.trans (Up.refl w9).drew U10
                have kk10 := HE.out _ V10
                clear hQ10
                go_wp2_with fail
                refine hK.out _ _ kk10 (fun _ => ?_)
                clear hK K'
                try simp only [Act.put, List.setIfInBounds_toArray, List.set_cons_zero, List.set_cons_succ]
                refine wpT_call (i := 9) (by as_aux_lemma => rw [HO12.out]; simp only [List.getElem?_toArray, List.getElem?_cons_succ, List.getElem?_cons_zero]; rfl) (by rfl) (fun K' hK => ?_)
                go_simp
                refine (HM2.out _ _ V10 HQ10.out).mono ?_
                rintro e w11 ⟨v11, rfl, hQ11, U11⟩
                obtain ⟨s11, A11, n11, c11, B11, m11, d11, rfl⟩ := hQ11.shape
                have HQ11 := Lib.hid hQ11
                have V11 : Up w9 w11 := Up.trans V10 U11
                have kk11 := HE.out _ V11
                clear hQ11
                go_wp2_with fail
                refine hK.out _ _ kk11 (fun _ => ?_)
                clear hK K'
                try simp only [Act.put, List.setIfInBounds_toArray, List.set_cons_zero, List.set_cons_succ]
                refine wpT_call (i := 10) (by as_aux_lemma => rw [HO12.out]; simp only [List.getElem?_toArray, List.getElem?_cons_succ, List.getElem?_cons_zero]; rfl) (by rfl) (fun K' hK => ?_)
                go_simp
                refine (HS2.out _ _ V11 HQ11.out).mono ?_
                rintro e w12 ⟨v12, rfl, hQ12, U12⟩
                obtain ⟨s12, A12, n12, c12, B12, m12, d12, rfl⟩ := hQ12.shape
                have HQ12 := Lib.hid hQ12
                have V12 : Up w9 w12 := Up.trans V11 U12
                have kk12 := HE.out _ V12
                clear hQ12
                obtain ⟨⟨y0, y1, y2⟩, _⟩ := kk12
                have kk12 := HE.out _ V12
                have f0 := (HO9.out.up V12).frozen (j * 3)
                have f1 := (HO9.out.up V12).frozen (j * 3 + 1)
                have f2 := (HO9.out.up V12).frozen (j * 3 + 2)
                go_wp2_with fail
                refine hK.out _ _ kk12 (fun _ => ?_)
                clear hK K'
                try simp only [Act.put, List.setIfInBounds_toArray, List.set_cons_zero, List.set_cons_succ]
                refine wpT_take (i := 11) (v := ?_) (by as_aux_lemma => rw [HO12.out]; simp only [List.getElem?_toArray, List.getElem?_cons_succ, List.getElem?_cons_zero]; rfl) (Or.inl ⟨(by rfl), ?_⟩) ?_
                rotate_left
                · as_aux_lemma => intro wx hSx; (try dsimp only at hSx); go_simp; try with_reducible rfl
                try simp only [Act.put, List.setIfInBounds_toArray, List.set_cons_zero, List.set_cons_succ]
                refine wpT_tail (i := 12) (by as_aux_lemma => rw [HO12.out]; simp only [List.getElem?_toArray, List.getElem?_cons_succ, List.getElem?_cons_zero]; rfl) (by rfl) (fun K' hK => ?_)
                go_simp
                go_wp2_with fail
                refine hK.out _ _ ?_
                clear hK K'
                try simp only [Act.put, List.setIfInBounds_toArray, List.set_cons_zero, List.set_cons_succ]
                refine wpT_end (NoPanic.normal ?_)
                clear HO12 O12
                have HO13 := (HO9.out.up V12).put (o := some C) HJ2.out (q := z) (HQ12.out.iv HZ2.out)
                rw [HST.out] at HO13
                have U13 := up_put (U9.trans V12) hg2' (j * 3) (.bool s12) (.slice A12 n12 c12) (.slice B12 m12 d12)
                have HO13 := Lib.hid HO13
                go_wp2_with fail
                rw [put3_eq]
                go_roundw
                case rel => exact ⟨j + 1, by omega, by go_num, HO13, U13⟩
                case measure => simp [intOf]; omega
              · have t2 : decide ((j : Int) < (r : Int)) = false := by simp; omega
                have t3 : decide (j < r) = false := by simp; omega
                obtain rfl : r = j := by omega
                have hO := HO0.out
                have hlt := HOU.out.lt
                rw [show r = k + 1 from HRK.out, nxRL_end] at hO
                have HH9 := Lib.hid (show RX (some C) wr (some ⟨g2, 0, none⟩) (rwL (k + 1)) ∧ OX (some C) wr g (outO ps N (k + 1) 0) ∧ (∀ a, some (Addr.mk g2 0 none) = some a → a.block ≠ g) from
                  ⟨hO.rx, HOU.out.up hUp, fun a e => by injection e with e; subst e; show g2 ≠ g; omega⟩)
                clear hO hlt HOU HROW
                go_wp2_with fail
                go_roundw
                case rel => exact ⟨k + 1, some ⟨g2, 0, none⟩, r + 1, by omega, by rw [HRK.out], by go_num, HH9, hUo.trans hUp⟩
                case measure => simp [intOf]; omega
      · have t1 : decide ((k : Int) < (N : Int)) = false := by simp; omega
        have t1n : decide (k < N) = false := by simp; omega
        obtain rfl : N = k := by omega
        have hout := HH.out.2.1
        rw [HEND.out N HL.out] at hout
        have HCN := rCanon_q (cap := N) hout.rx (B := C) (fun q _ => Nat.le_refl _) (by omega) (by rw [HPL.out]; have := HL.out; omega)
        rw [HPL.out, ← HP.out.1, ← HL.out] at HCN
        replace HCN := Lib.hid HCN
        clear hout HH
        go_wp2_with fail
        refine HCN.out.mono ?_
        rintro e w10 ⟨A10, c10, rfl, h1, h2, h3, h4⟩
        have H9 := Lib.hid (And.intro h1 (And.intro h2 h3))
        clear h1 h2 h3
        go_wp2_with fail
        go_ret2
        exact ⟨A10, c10, by rw [HP.out.2]; rfl, H9.out.1, H9.out.2.1, H9.out.2.2, hU.trans h4⟩
  · have HP := Lib.hid (HNO h33)
    have t0 : decide (33 < ps.length) = true := by simp; omega
    have t0i : decide ((33 : Int) < (ps.length : Int)) = true := by simp; omega
    clear h33 h hB
    go_enter Try.func19, Try.ntmps19
    go_wp2_with fail
    go_ret2
    exact ⟨none, 0, by rw [HP.out.1, HP.out.2]; rfl, by rw [HP.out.1]; exact Nat.le_refl _, by omega, by rw [HP.out.1]; exact RX.nil_, Up.refl _⟩
end Go.Proofs.Ytkngegcfdabpoaa
