/-
  The document's FromPowers.
-/
import Derived.Test.YtkngegcfdabpoaaLPowS
import Derived.Test.YtkngegcfdabpoaaLDiff
import Derived.Test.YtkngegcfdabpoaaLPowC
import Derived.Test.YtkngegcfdabpoaaLAt
import Derived.Test.YtkngegcfdabpoaaLApp
import Derived.Test.YtkngegcfdabpoaaPF
namespace Go.Proofs.Ytkngegcfdabpoaa
open Go.RowKit

theorem BoxQ.far3 {w : World} {g g' : Nat} {q : Rat} (h : BoxQ w g q) (hne : g ≠ g') {s : Bool} {A A' : Option Addr} {l l' c c' : Nat} (r : Blk w g' 31 #[.bool s, .slice A l c, .slice A' l' c']) (s' : Bool) (C C' : Option Addr) (m m' d d' : Nat) :
    BoxQ (((w.setCell ⟨g', 0, none⟩ (.bool s')).setCell ⟨g', 1, none⟩ (.slice C m d)).setCell ⟨g', 2, none⟩ (.slice C' m' d')) g q := by
  obtain ⟨s1, A1, n1, c1, B1, m1, d1, h1, h2⟩ := h
  exact ⟨s1, A1, n1, c1, B1, m1, d1, ((h1.far (p := ⟨g', 0, none⟩) hne _).far (p := ⟨g', 1, none⟩) hne _).far (p := ⟨g', 2, none⟩) hne _, QV.kp h2 (Kp.tri (Kp.refl w) r)⟩
def pwK (ps : List Rat) (n k : Nat) : Rat := sm k (fun i => ps.getD i 0 * (n : Rat) ^ i)
theorem pwK_succ (ps : List Rat) (n k : Nat) : pwK ps n k + ps.getD k 0 * (n : Rat) ^ k = pwK ps n (k + 1) := rfl
theorem pow_next (n k : Nat) : (n : Rat) ^ k * (((n : Nat) : Int) : Rat) = (n : Rat) ^ (k + 1) := by rw [Rat.pow_succ, Rat.intCast_natCast]

set_option maxRecDepth 100000 in
set_option maxHeartbeats 6400000 in
theorem rFromPowers_q {o : Option Nat} {A0 : Option Addr} {cap0 : Nat} {ps : List Rat} {B : Nat} {w : World} (h : RX o w A0 ps) (hB : ∀ q ∈ ps, XB o q B) (hB2 : 2 ≤ B) (hB' : B ≤ 100000) (hl : ps.length ≤ 1000) :
    Calls Try.prog 21 #[.slice A0 ps.length cap0] w (RetLB w (fpV ps) (powB ps)) := by
  have HNO := @fp_no ps
  by_cases h33 : ps.length ≤ 33
  · have HP := Lib.hid (fp_yes h33)
    have hq := h.qs hB
    have HQK := Lib.hid (fun n k (hn : n ≤ 64) (hk : k ≤ 64) => show qs (pwK ps n k) ≤ 64 * (B + 1 + 66) + 3 from Nat.le_trans (qs_pwrK ps (B + 1) hq (by omega) n k hn hk) (Nat.add_le_add_right (Nat.mul_le_mul_right _ hk) _))
    have HVM := Lib.hid (fun k (hk : k ≤ 64) => pwVals_mem hq (by omega) (by omega) hk)
    have HVC := Lib.hid (pwVals_cut ps)
    have HR := Lib.hid (h.iv hB)
    obtain ⟨N, hN⟩ : ∃ L, L = ps.length := ⟨_, rfl⟩
    have HL := Lib.hid hN
    rw [← hN] at hl h33 HVC ⊢
    have t0 : decide (33 < N) = false := by simp; omega
    have t0i : decide ((33 : Int) < (N : Int)) = false := by simp; omega
    clear h hB hN hq HNO
    go_enter Try.func21, Try.ntmps21
    go_wp2_with fail
    clear t0 t0i
    go_loopw [4, 5] (fun v iv wr => ∃ n : Nat, n ≤ N ∧ iv = .int .i64 n ∧ Hid (AX none wr w.heap.size v (pwVals ps n)) ∧ Up w wr) (fun _ iv _ => N - (intOf iv).toNat)
    case atStart => exact ⟨0, Nat.zero_le _, rfl, Lib.hid AX.nil_, Up.refl _⟩
    case round =>
      obtain ⟨n, hn, rfl, HA, hU⟩ := hrel
      rename World => wo
      by_cases hnN : n < N
      · have t1 : decide ((n : Int) < (N : Int)) = true := by simp; omega
        have t2 : decide (n < N) = true := by simp; omega
        have i1 : (0 : Int) ≤ n := by omega
        have i2 : (n : Int) < N := by omega
        have HF0 := Lib.hid (fun (wx : World) => rFromInt_q (w := wx) 0 (by omega) (by omega))
        have HF1 := Lib.hid (fun (wx : World) => rFromInt_q (w := wx) 1 (by omega) (by omega))
        have HF2 := Lib.hid (fun (wx : World) => rFromInt_q (w := wx) (n : Int) (by omega) (by omega))
        have HT := Lib.hid (pwVals_snoc ps n)
        rw [show pwr ps.length (fun i => ps.getD i 0) (n : Rat) = pwK ps n N by rw [HL.out]; rfl] at HT
        have HLN := Lib.hid (show (pwVals ps n).length + [pwK ps n N].length ≤ 1000000 by rw [pwVals_len]; simp; omega)
        go_wp2_with fail
        refine (HF0.out wo).mono ?_
        rintro e w2 ⟨v2, rfl, hQ2, U2⟩
        obtain ⟨s2, A2, n2, c2, B2, m2, d2, rfl⟩ := hQ2.shape
        have HQ2 := Lib.hid hQ2
        clear hQ2
        go_wp2_with fail
        refine (HF1.out w2).mono ?_
        rintro e w3 ⟨v3, rfl, hQ3, U3⟩
        obtain ⟨s3, A3, n3, c3, B3, m3, d3, rfl⟩ := hQ3.shape
        have HQ3 := Lib.hid hQ3
        clear hQ3
        go_wp2_with fail
        obtain ⟨w4, hw4⟩ : ∃ w4, w4 = (w3.alloc (Obj.cells #[.bool s2, .slice A2 n2 c2, .slice B2 m2 d2] 31)).alloc (Obj.cells #[.bool s3, .slice A3 n3 c3, .slice B3 m3 d3] 31) := ⟨_, rfl⟩
        have U4 : Up w3 w4 := by rw [hw4]; exact Below.alloc (Below.alloc (Up.refl _) (Nat.le_refl _) _) (by simp) _
        have bs4 : Blk w4 w3.heap.size 31 #[.bool s2, .slice A2 n2 c2, .slice B2 m2 d2] := by rw [hw4]; exact (Blk.new _ _ _).alloc _
        have bx4 : Blk w4 (w3.heap.size + 1) 31 #[.bool s3, .slice A3 n3 c3, .slice B3 m3 d3] := by rw [hw4]; exact Blk.new' _ _ _ (by simp)
        rw [← hw4]
        obtain ⟨gs, hgs⟩ : ∃ g, g = w3.heap.size := ⟨_, rfl⟩
        obtain ⟨gx, hgx⟩ : ∃ g, g = w3.heap.size + 1 := ⟨_, rfl⟩
        have hne : gs ≠ gx := by omega
        have hgs2 : wo.heap.size ≤ gs := by have := U2.size; have := U3.size; omega
        have hgx2 : wo.heap.size ≤ gx := by omega
        rw [← hgx] at bx4 ⊢
        rw [← hgs] at bs4 ⊢
        have HI4 := Lib.hid (show BoxQ w4 gs (pwK ps n 0) ∧ BoxQ w4 gx ((n : Rat) ^ 0) from ⟨⟨_, _, _, _, _, _, _, bs4, (HQ2.out.up U3).up U4⟩, ⟨_, _, _, _, _, _, _, bx4, by rw [Rat.pow_zero]; exact HQ3.out.up U4⟩⟩)
        have V4 := U2.trans (U3.trans U4)
        clear hw4 hgs hgx bs4 bx4 HQ2 HQ3 U2 U3 U4
        go_loopw [8] (fun jv wr => ∃ k : Nat, k ≤ N ∧ jv = .int .i64 k ∧ Hid (BoxQ wr gs (pwK ps n k) ∧ BoxQ wr gx ((n : Rat) ^ k)) ∧ Up wo wr) (fun jv _ => N - (intOf jv).toNat)
        case atStart => exact ⟨0, Nat.zero_le _, rfl, HI4, V4⟩
        case round =>
          obtain ⟨k, hk, rfl, HI, hUo⟩ := hrel
          clear HI4 V4
          obtain ⟨bsq, bxq⟩ := HI.out
          obtain ⟨sb, Ab, nb, cb, Bb, mb, db, bs, hqs⟩ := bsq
          obtain ⟨sx, Ax, nx, cx, Bx, mx, dx, bx, hqx⟩ := bxq
          by_cases hkN : k < N
          · have t3 : decide ((k : Int) < (N : Int)) = true := by simp; omega
            have t4 : decide (k < N) = true := by simp; omega
            obtain ⟨b, off, se, Xe, ae, ce, Ye, me, de, he, hb, hx, c0, c1, c2⟩ := (HR.out.up (hU.trans hUo)).at_ (k := k) (by have := HL.out; omega)
            subst he
            have j1 : (0 : Int) ≤ k := by omega
            have j2 : (k : Int) < N := by omega
            have HQN := Lib.hid (qs_powN n k (by omega))
            have HQP := Lib.hid (XB.le (B := B) hx (Nat.le_refl _))
            have HM1 := Lib.hid (fun wx (u : Up wr wx) => rMul_q (XV.iv (hx.up u) (B := B) (Nat.le_refl _)) ((hqx.up u).iv HQN.out) (by omega))
            have HA1 := Lib.hid (fun wx vx (u : Up wr wx) (h : QV wx vx (ps.getD k 0 * (n : Rat) ^ k)) => rAdd_q ((hqs.up u).iv (HQK.out n k (by omega) (by omega))) (h.iv (Nat.le_trans (qs_mul _ _) (Nat.add_le_add HQP.out HQN.out))) (by omega))
            rw [pwK_succ] at HA1
            have HXQ := Lib.hid hqx
            have l1 := bs.lt
            have l2 := bx.lt
            obtain ⟨x0, x1, x2⟩ := tri bs
            obtain ⟨y0, y1, y2⟩ := tri bx
            have HE : Hid (∀ W : World, Up wr W → (W.cell? ⟨gs, 0, none⟩ = some (.bool sb) ∧ W.cell? ⟨gs, 1, none⟩ = some (.slice Ab nb cb) ∧ W.cell? ⟨gs, 2, none⟩ = some (.slice Bb mb db)) ∧ (W.cell? ⟨b, off + k * 3, none⟩ = some (.bool se) ∧ W.cell? ⟨b, off + k * 3 + 1, none⟩ = some (.slice Xe ae ce) ∧ W.cell? ⟨b, off + k * 3 + 2, none⟩ = some (.slice Ye me de)) ∧ (W.cell? ⟨gx, 0, none⟩ = some (.bool sx) ∧ W.cell? ⟨gx, 1, none⟩ = some (.slice Ax nx cx) ∧ W.cell? ⟨gx, 2, none⟩ = some (.slice Bx mx dx))) := Lib.hid fun W hW => And.intro (tri (bs.up hW)) (And.intro (⟨by rw [hW.cell (by exact hb)]; exact c0, by rw [hW.cell (by exact hb)]; exact c1, by rw [hW.cell (by exact hb)]; exact c2⟩) (tri (bx.up hW)))
            clear hqs hqx hx HI
            go_wp2_with fail
            refine wp_region_noPanic ?_
            refine wp_region_till (S := (fun wx => (wx.cell? ⟨gs, 0, none⟩ = some (.bool sb) ∧ wx.cell? ⟨gs, 1, none⟩ = some (.slice Ab nb cb) ∧ wx.cell? ⟨gs, 2, none⟩ = some (.slice Bb mb db)) ∧ (wx.cell? ⟨b, off + k * 3, none⟩ = some (.bool se) ∧ wx.cell? ⟨b, off + k * 3 + 1, none⟩ = some (.slice Xe ae ce) ∧ wx.cell? ⟨b, off + k * 3 + 2, none⟩ = some (.slice Ye me de)) ∧ (wx.cell? ⟨gx, 0, none⟩ = some (.bool sx) ∧ wx.cell? ⟨gx, 1, none⟩ = some (.slice Ax nx cx) ∧ wx.cell? ⟨gx, 2, none⟩ = some (.slice Bx mx dx)))) 8 [(0, 0), (1, 0), (2, 0), (3, 0), (4, 0), (5, 0), (6, 1), (7, 1)] [8] (by kernel_rfl) (by as_aux_lemma => kernel_rfl) (by as_aux_lemma => kernel_rfl) (by as_aux_lemma => kernel_rfl) (fun _ _ _ _ _ h => h) (HE.out _ (Up.refl wr).drew) ?_
            intro O8 HO8
            refine wpT_take (i := 0) (v := ?_) (by as_aux_lemma => rw [HO8.out]; simp only [List.getElem?_toArray, List.getElem?_cons_zero]; rfl) (Or.inl ⟨(by rfl), ?_⟩) ?_
            rotate_left
            · as_aux_lemma => intro wx hSx; (try dsimp only at hSx); go_simp; try with_reducible rfl
            try simp only [Act.put, List.setIfInBounds_toArray, List.set_cons_zero, List.set_cons_succ]
            refine wpT_take (i := 1) (v := ?_) (by as_aux_lemma => rw [HO8.out]; simp only [List.getElem?_toArray, List.getElem?_cons_succ, List.getElem?_cons_zero]; rfl) (Or.inl ⟨(by rfl), ?_⟩) ?_
            rotate_left
            · as_aux_lemma => intro wx hSx; (try dsimp only at hSx); go_simp; try with_reducible rfl
            try simp only [Act.put, List.setIfInBounds_toArray, List.set_cons_zero, List.set_cons_succ]
            refine wpT_take (i := 2) (v := ?_) (by as_aux_lemma => rw [HO8.out]; simp only [List.getElem?_toArray, List.getElem?_cons_succ, List.getElem?_cons_zero]; rfl) (Or.inl ⟨(by rfl), ?_⟩) ?_
            rotate_left
            · as_aux_lemma => intro wx hSx; (try dsimp only at hSx); go_simp; try with_reducible rfl
            try simp only [Act.put, List.setIfInBounds_toArray, List.set_cons_zero, List.set_cons_succ]
            refine wpT_take (i := 3) (v := ?_) (by as_aux_lemma => rw [HO8.out]; simp only [List.getElem?_toArray, List.getElem?_cons_succ, List.getElem?_cons_zero]; rfl) (Or.inl ⟨(by rfl), ?_⟩) ?_
            rotate_left
            · as_aux_lemma => intro wx hSx; (try dsimp only at hSx); go_simp; try with_reducible rfl
            try simp only [Act.put, List.setIfInBounds_toArray, List.set_cons_zero, List.set_cons_succ]
            refine wpT_take (i := 4) (v := ?_) (by as_aux_lemma => rw [HO8.out]; simp only [List.getElem?_toArray, List.getElem?_cons_succ, List.getElem?_cons_zero]; rfl) (Or.inl ⟨(by rfl), ?_⟩) ?_
            rotate_left
            · as_aux_lemma => intro wx hSx; (try dsimp only at hSx); go_simp; try with_reducible rfl
            try simp only [Act.put, List.setIfInBounds_toArray, List.set_cons_zero, List.set_cons_succ]
            refine wpT_take (i := 5) (v := ?_) (by as_aux_lemma => rw [HO8.out]; simp only [List.getElem?_toArray, List.getElem?_cons_succ, List.getElem?_cons_zero]; rfl) (Or.inl ⟨(by rfl), ?_⟩) ?_
            rotate_left
            · as_aux_lemma => intro wx hSx; (try dsimp only at hSx); go_simp; try with_reducible rfl
            try simp only [Act.put, List.setIfInBounds_toArray, List.set_cons_zero, List.set_cons_succ]
            refine wpT_call (i := 6) (by as_aux_lemma => rw [HO8.out]; simp only [List.getElem?_toArray, List.getElem?_cons_succ, List.getElem?_cons_zero]; rfl) (by rfl) (fun K' hK => ?_)
            go_simp
            refine (HM1.out _ (Up.refl wr).drew).mono ?_
            rintro e w6 ⟨v6, rfl, hQ6, U6⟩
            obtain ⟨s6, A6, n6, c6, B6, m6, d6, rfl⟩ := hQ6.shape
            have HQ6 := Lib.hid hQ6
            have V6 : Up wr w6 := Up.trans (Up.refl wr).drew U6
            have kk6 := HE.out _ V6
            clear hQ6
            go_wp2_with fail
            refine hK.out _ _ kk6 (fun _ => ?_)
            clear hK K'
            try simp only [Act.put, List.setIfInBounds_toArray, List.set_cons_zero, List.set_cons_succ]
            refine wpT_call (i := 7) (by as_aux_lemma => rw [HO8.out]; simp only [List.getElem?_toArray, List.getElem?_cons_succ, List.getElem?_cons_zero]; rfl) (by rfl) (fun K' hK => ?_)
            go_simp
            refine (HA1.out _ _ V6 HQ6.out).mono ?_
            rintro e w7 ⟨v7, rfl, hQ7, U7⟩
            obtain ⟨s7, A7, n7, c7, B7, m7, d7, rfl⟩ := hQ7.shape
            have HQ7 := Lib.hid hQ7
            have V7 : Up wr w7 := Up.trans V6 U7
            have kk7 := HE.out _ V7
            clear hQ7
            have x8 := bs.up V7
            obtain ⟨k0, k1, k2⟩ := tri x8
            have f0 := x8.frozen 0
            have f1 := x8.frozen 1
            have f2 := x8.frozen 2
            go_wp2_with fail
            refine hK.out _ _ kk7 (fun _ => ?_)
            clear hK K'
            try simp only [Act.put, List.setIfInBounds_toArray, List.set_cons_zero, List.set_cons_succ]
            refine wpT_tail (i := 8) (by as_aux_lemma => rw [HO8.out]; simp only [List.getElem?_toArray, List.getElem?_cons_succ, List.getElem?_cons_zero]; rfl) (by rfl) (fun K' hK => ?_)
            go_simp
            go_wp2_with fail
            refine hK.out _ _ ?_
            clear hK K'
            try simp only [Act.put, List.setIfInBounds_toArray, List.set_cons_zero, List.set_cons_succ]
            refine wpT_end (NoPanic.normal ?_)
            clear HO8 O8
            have hs8 := BoxQ.of (t := 0) x8 HQ7.out
            have hxq8 := BoxQ.far3 (q := (n : Rat) ^ k) ⟨_, _, _, _, _, _, _, bx.up V7, HXQ.out.up V7⟩ (fun e => hne e.symm) x8 s7 A7 B7 n7 m7 c7 d7
            have bx8 := (((bx.up V7).far (p := ⟨gs, 0, none⟩) (fun e => hne e.symm) (.bool s7)).far (p := ⟨gs, 1, none⟩) (fun e => hne e.symm) (.slice A7 n7 c7)).far (p := ⟨gs, 2, none⟩) (fun e => hne e.symm) (.slice B7 m7 d7)
            have hv8 := QV.kp (HXQ.out.up V7) (Kp.tri (Kp.refl w7) x8 (s' := s7) (C := A7) (m := n7) (d := c7) (C' := B7) (m' := m7) (d' := d7))
            have U8 := up_tri (g := gs) (hUo.trans V7) hgs2 (.bool s7) (.slice A7 n7 c7) (.slice B7 m7 d7)
            obtain ⟨w8, hw8⟩ : ∃ x, x = ((w7.setCell ⟨gs, 0, none⟩ (.bool s7)).setCell ⟨gs, 1, none⟩ (.slice A7 n7 c7)).setCell ⟨gs, 2, none⟩ (.slice B7 m7 d7) := ⟨_, rfl⟩
            rw [← hw8] at hs8 bx8 hv8 U8 ⊢
            have HS8 := Lib.hid hs8
            have HM2 := Lib.hid (fun wx vx (u : Up w8 wx) (h : QV wx vx (((n : Nat) : Int) : Rat)) => rMul_q ((hv8.up u).iv HQN.out) (h.iv (B := 3) (qs_int _ (by omega) (by omega))) (by omega))
            rw [pow_next] at HM2
            obtain ⟨y0, y1, y2⟩ := tri bx8
            have HE8 : Hid (∀ W : World, Up w8 W → (W.cell? ⟨gx, 0, none⟩ = some (.bool sx) ∧ W.cell? ⟨gx, 1, none⟩ = some (.slice Ax nx cx) ∧ W.cell? ⟨gx, 2, none⟩ = some (.slice Bx mx dx))) := Lib.hid fun W hW => tri (bx8.up hW)
            clear hw8 hs8 hv8 x8 hxq8 HE x0 x1 x2 k0 k1 k2 f0 f1 f2
            go_wp2_with fail
            refine wp_region_noPanic ?_
            refine wp_region_till (S := (fun wx => (wx.cell? ⟨gx, 0, none⟩ = some (.bool sx) ∧ wx.cell? ⟨gx, 1, none⟩ = some (.slice Ax nx cx) ∧ wx.cell? ⟨gx, 2, none⟩ = some (.slice Bx mx dx)))) 4 [(0, 0), (1, 0), (2, 1), (3, 1)] [4] (by kernel_rfl) (by as_aux_lemma => kernel_rfl) (by as_aux_lemma => kernel_rfl) (by as_aux_lemma => kernel_rfl) (fun _ _ _ _ _ h => h) (HE8.out _ (Up.refl w8).drew) ?_
            intro O9 HO9
            refine wpT_take (i := 0) (v := ?_) (by as_aux_lemma => rw [HO9.out]; simp only [List.getElem?_toArray, List.getElem?_cons_zero]; rfl) (Or.inl ⟨(by rfl), ?_⟩) ?_
            rotate_left
            · as_aux_lemma => intro wx hSx; (try dsimp only at hSx); go_simp; try with_reducible rfl
            try simp only [Act.put, List.setIfInBounds_toArray, List.set_cons_zero, List.set_cons_succ]
            refine wpT_take (i := 1) (v := ?_) (by as_aux_lemma => rw [HO9.out]; simp only [List.getElem?_toArray, List.getElem?_cons_succ, List.getElem?_cons_zero]; rfl) (Or.inl ⟨(by rfl), ?_⟩) ?_
            rotate_left
            · as_aux_lemma => intro wx hSx; (try dsimp only at hSx); go_simp; try with_reducible rfl
            try simp only [Act.put, List.setIfInBounds_toArray, List.set_cons_zero, List.set_cons_succ]
            refine wpT_call (i := 2) (by as_aux_lemma => rw [HO9.out]; simp only [List.getElem?_toArray, List.getElem?_cons_succ, List.getElem?_cons_zero]; rfl) (by rfl) (fun K' hK => ?_)
            go_simp
            refine (HF2.out _).mono ?_
            rintro e w9 ⟨v9, rfl, hQ9, U9⟩
            obtain ⟨s9, A9, n9, c9, B9, m9, d9, rfl⟩ := hQ9.shape
            have HQ9 := Lib.hid hQ9
            have V9 : Up w8 w9 := Up.trans (Up.refl w8).drew U9
            have kk9 := HE8.out _ V9
            clear hQ9
            go_wp2_with fail
            refine hK.out _ _ kk9 (fun _ => ?_)
            clear hK K'
            try simp only [Act.put, List.setIfInBounds_toArray, List.set_cons_zero, List.set_cons_succ]
            refine wpT_call (i := 3) (by as_aux_lemma => rw [HO9.out]; simp only [List.getElem?_toArray, List.getElem?_cons_succ, List.getElem?_cons_zero]; rfl) (by rfl) (fun K' hK => ?_)
            go_simp
            refine (HM2.out _ _ V9 HQ9.out).mono ?_
            rintro e w10 ⟨v10, rfl, hQ10, U10⟩
            obtain ⟨s10, A10, n10, c10, B10, m10, d10, rfl⟩ := hQ10.shape
            have HQ10 := Lib.hid hQ10
            have V10 : Up w8 w10 := Up.trans V9 U10
            have kk10 := HE8.out _ V10
            clear hQ10
            have x9 := bx8.up V10
            obtain ⟨k0, k1, k2⟩ := tri x9
            have f0 := x9.frozen 0
            have f1 := x9.frozen 1
            have f2 := x9.frozen 2
            go_wp2_with fail
            refine hK.out _ _ kk10 (fun _ => ?_)
            clear hK K'
            try simp only [Act.put, List.setIfInBounds_toArray, List.set_cons_zero, List.set_cons_succ]
            refine wpT_tail (i := 4) (by as_aux_lemma => rw [HO9.out]; simp only [List.getElem?_toArray, List.getElem?_cons_succ, List.getElem?_cons_zero]; rfl) (by rfl) (fun K' hK => ?_)
            go_simp
            go_wp2_with fail
            refine hK.out _ _ ?_
            clear hK K'
            try simp only [Act.put, List.setIfInBounds_toArray, List.set_cons_zero, List.set_cons_succ]
            refine wpT_end (NoPanic.normal ?_)
            clear HO9 O9
            have hx10 := BoxQ.of (t := 0) x9 HQ10.out
            have hs10 := BoxQ.far3 (HS8.out.up V10) hne x9 s10 A10 B10 n10 m10 c10 d10
            have U10 := up_tri (g := gx) (U8.trans V10) hgx2 (.bool s10) (.slice A10 n10 c10) (.slice B10 m10 d10)
            have HI10 := Lib.hid (And.intro hs10 hx10)
            clear hx10 hs10 x9
            go_wp2_with fail
            go_roundw
            case rel => exact ⟨k + 1, by omega, by go_num, HI10, U10⟩
            case measure => simp [intOf]; omega
          · have t3 : decide ((k : Int) < (N : Int)) = false := by simp; omega
            have t4 : decide (k < N) = false := by simp; omega
            obtain rfl : k = N := by omega
            obtain ⟨k0, k1, k2⟩ := tri bs
            have U13 : Up wr (wr.alloc (Obj.cells #[.bool sb, .slice Ab nb cb, .slice Bb mb db] 31)) := Below.alloc (Up.refl _) (Nat.le_refl _) _
            have HA13 := Lib.hid (HA.out.up (hUo.trans U13))
            have HR13 := Lib.hid (RX.one (m := none) (Blk.new wr 31 #[.bool sb, .slice Ab nb cb, .slice Bb mb db]) (hqs.up U13))
            have hV13 := hU.trans (hUo.trans U13)
            have hsz := hV13.size
            clear hqs hqx U13 HI
            go_wp2_with (first
              | (at_builtin; refine wpList_append_rats rfl _ _ rfl rfl HA13.out rfl rfl HR13.out (fun h => by cases h) HLN.out hsz ?_))
            intro v14 w14 hA14
            have hV14 := hA14.below hV13 HA13.out hsz
            have HA14 := hA14.own
            rw [← HT.out] at HA14
            have HA14 := Lib.hid HA14
            clear hA14 hsz hV13
            go_wp2_with fail
            go_roundw
            case rel => exact ⟨n + 1, by omega, by go_num, HA14, hV14⟩
            case measure => simp [intOf]; omega
      · have t1 : decide ((n : Int) < (N : Int)) = false := by simp; omega
        have t2 : decide (n < N) = false := by simp; omega
        obtain rfl : n = N := by omega
        have hA := HA.out
        obtain ⟨A9, c9, rfl, _, _, hr9⟩ := hA.rx
        have hnc : A9 = none → c9 = 0 := by
          obtain ⟨vs, ⟨_, hv⟩, _⟩ := hA
          intro e
          subst e
          rcases hv with ⟨hv, _⟩ | ⟨g, cp, cr, hv, _⟩
          · injection hv
          · injection hv with hv; cases hv
        have HD := differences_q (cap := c9) (B := 64 * (B + 1 + 66) + 3) hr9 (HVM.out n (by omega)) (by omega) (by rw [pwVals_len]; omega) hnc
        have HDC := Lib.hid (show cutL (newton (pwVals ps n).length (fun i => (pwVals ps n).getD i 0)) = fpV ps by rw [HP.out.1]; exact HVC.out)
        replace HD := Lib.hid HD
        clear hA hr9 hnc HA
        go_wp2_with fail
        refine HD.out.mono ?_
        rw [HDC.out]
        rintro e w11 ⟨A11, c11, rfl, h1, h2, h3, h4⟩
        have H9 := Lib.hid (And.intro h1 (And.intro h2 h3))
        clear h1 h2 h3
        go_wp2_with fail
        go_ret2
        exact ⟨A11, c11, by rw [HP.out.2]; rfl, H9.out.1, H9.out.2.1, H9.out.2.2, hU.trans h4⟩
  · have HP := Lib.hid (HNO h33)
    have t0 : decide (33 < ps.length) = true := by simp; omega
    have t0i : decide ((33 : Int) < (ps.length : Int)) = true := by simp; omega
    clear h33 h hB
    go_enter Try.func21, Try.ntmps21
    go_wp2_with fail
    go_ret2
    exact ⟨none, 0, by rw [HP.out.1, HP.out.2]; rfl, by rw [HP.out.1]; exact Nat.le_refl _, by omega, by rw [HP.out.1]; exact RX.nil_, Up.refl _⟩
end Go.Proofs.Ytkngegcfdabpoaa
