/-
  binomial.FromPowers.
-/
import Derived.Test.YtkngegcfdabpoaaLPowC
import Derived.Test.YtkngegcfdabpoaaLPowT
import Derived.Test.YtkngegcfdabpoaaLZero
import Derived.Test.YtkngegcfdabpoaaLAt
import Derived.Test.YtkngegcfdabpoaaPF
namespace Go.Proofs.Ytkngegcfdabpoaa
open Go.RowKit

/-- The next list after j steps. -/
def nxE (acc : Nat → Rat) (j i : Nat) : Rat := (if 1 ≤ i ∧ i ≤ j then acc (i - 1) * (((i : Nat) : Int) : Rat) else 0) + (if i < j then acc i * (((i : Nat) : Int) : Rat) else 0)
def nxL (acc : Nat → Rat) (r j : Nat) : List Rat := (List.range (r + 1)).map (nxE acc j)
theorem nxL_len (acc : Nat → Rat) (r j : Nat) : (nxL acc r j).length = r + 1 := by simp [nxL]
theorem nxL_getD (acc : Nat → Rat) (r j i : Nat) (h : i < r + 1) : (nxL acc r j).getD i 0 = nxE acc j i := by unfold nxL; rw [range_getD, if_pos h]
theorem nxL_start (acc : Nat → Rat) (r : Nat) : List.replicate (r + 1) 0 = nxL acc r 0 := by
  rw [zeros_map]
  exact map_congr' fun i _ => by rw [nxE, if_neg (by omega), if_neg (by omega)]; grind
theorem nxL_step (acc : Nat → Rat) (r j : Nat) (hj : j < r) : ((nxL acc r j).set j ((nxL acc r j).getD j 0 + acc j * (((j : Nat) : Int) : Rat))).set (j + 1) (acc j * (((j : Int) + 1 : Int) : Rat)) = nxL acc r (j + 1) := by
  rw [nxL_getD _ _ _ _ (by omega)]
  unfold nxL
  rw [map_set, map_set]
  refine map_congr' fun i hi => ?_
  by_cases e : i = j + 1
  · subst e
    rw [if_pos rfl, nxE, if_pos (by omega), if_neg (by omega), Nat.add_sub_cancel]
    rw [show (((j + 1 : Nat) : Int)) = (j : Int) + 1 from by omega]; grind
  · rw [if_neg e]
    by_cases e2 : i = j
    · subst e2
      rw [if_pos rfl, nxE, nxE, if_neg (by omega : ¬ i < i), if_pos (by omega : i < i + 1)]
      by_cases h1 : 1 ≤ i
      · rw [if_pos (by omega), if_pos (by omega)]; grind
      · rw [if_neg (by omega), if_neg (by omega)]; grind
    · rw [if_neg e2, nxE, nxE]
      by_cases h1 : i < j
      · rw [if_pos h1, if_pos (by omega : i < j + 1)]
        by_cases h2 : 1 ≤ i
        · rw [if_pos (by omega), if_pos (by omega)]
        · rw [if_neg (by omega), if_neg (by omega)]
      · rw [if_neg h1, if_neg (by omega : ¬ i < j + 1), if_neg (by omega), if_neg (by omega)]
theorem nxL_end (ps : List Rat) (r k : Nat) (hk : k = ps.length - 1 - r) (i : Nat) : ((nxL (fpR ps r) r r).set 0 ((nxL (fpR ps r) r r).getD 0 0 + ps.getD k 0)).getD i 0 = fpR ps (r + 1) i := by
  rw [nxL_getD _ _ _ _ (by omega)]
  unfold nxL
  rw [map_set, range_getD]
  by_cases hi : i < r + 1
  · rw [if_pos hi, fpR_succ, ← hk, fstep]
    by_cases h0 : i = 0
    · subst h0
      rw [if_pos rfl, if_pos rfl, if_pos rfl, nxE, if_neg (by omega)]
      by_cases h1 : 0 < r
      · rw [if_pos h1]
      · rw [if_neg h1, fpR_zero ps r 0 (by omega)]; grind
    · rw [if_neg h0, if_neg h0, if_neg h0, nxE, if_pos (by omega)]
      by_cases h1 : i < r
      · rw [if_pos h1]; grind
      · rw [if_neg h1, fpR_zero ps r i (by omega)]; grind
  · rw [if_neg hi, fpR_zero ps (r + 1) i (by omega)]
theorem qs_nxE (acc : Nat → Rat) (C : Nat) (h : ∀ i, qs (acc i) ≤ C) (j i : Nat) (hi : i ≤ 100) : qs (nxE acc j i) ≤ 2 * C + 20 := by
  have a0 := qs_zero
  have a1 := qs_add (if 1 ≤ i ∧ i ≤ j then acc (i - 1) * (((i : Nat) : Int) : Rat) else 0) (if i < j then acc i * (((i : Nat) : Int) : Rat) else 0)
  have a2 := qs_int ((i : Nat) : Int) (by omega) (by omega)
  have a3 : qs (if 1 ≤ i ∧ i ≤ j then acc (i - 1) * (((i : Nat) : Int) : Rat) else 0) ≤ C + 6 := by
    split
    · have b1 := qs_mul (acc (i - 1)) (((i : Nat) : Int) : Rat); have b2 := h (i - 1); omega
    · omega
  have a4 : qs (if i < j then acc i * (((i : Nat) : Int) : Rat) else 0) ≤ C + 6 := by
    split
    · have b1 := qs_mul (acc i) (((i : Nat) : Int) : Rat); have b2 := h i; omega
    · omega
  unfold nxE
  omega
theorem Blk.put3q {w : World} {g h : Nat} {t : TypeId} {cs : Array Value} (hb : Blk w h t cs) (hne : h ≠ g) (i : Nat) (x y z : Value) : Blk (put3 w g i x y z) h t cs :=
  ((put3_only w g i x y z).block h hb.lt (fun e => hne (by injection e))).trans hb

set_option maxRecDepth 100000 in
set_option maxHeartbeats 6400000 in
theorem fromPowers_q {o : Option Nat} {A0 : Option Addr} {cap0 : Nat} {ps : List Rat} {B : Nat} {w : World} (h : RX o w A0 ps) (hB : ∀ q ∈ ps, XB o q B) (hB2 : 2 ≤ B) (hB' : B ≤ 100000) (hl : ps.length ≤ 1000) :
    Calls Try.prog 20 #[.slice A0 ps.length cap0] w (RetLB w (fpV ps) (powB ps)) := by
  have HNO := @fp_no ps
  by_cases h33 : ps.length ≤ 33
  · have HP := Lib.hid (fp_yes h33)
    have hq := h.qs hB
    obtain ⟨C, hC⟩ : ∃ C, C = pB (B + 1) := ⟨_, rfl⟩
    have hCB : C ≤ 7000000 ∧ 3 ≤ C := by rw [hC]; unfold pB; omega
    obtain ⟨hC1, hC2⟩ := hCB
    have HQP := Lib.hid (fun r i (hr : r ≤ 64) => show qs (fpR ps r i) ≤ C from by rw [hC]; exact qs_fpR ps (B + 1) hq (by omega) r i hr)
    have HR := Lib.hid (h.iv hB)
    obtain ⟨N, hN⟩ : ∃ L, L = ps.length := ⟨_, rfl⟩
    have HL := Lib.hid hN
    rw [← hN] at hl h33 ⊢
    have t0 : decide (33 < N) = false := by simp; omega
    have t0i : decide ((33 : Int) < (N : Int)) = false := by simp; omega
    have i0 : (N : Int) ≤ 33 := by omega
    clear h hB hN hC hq HNO
    go_enter Try.func20, Try.ntmps20
    go_wp2_with fail
    clear t0 t0i
    go_loopw [4, 5] (fun v iv wr => ∃ K : Nat, ∃ acc : List Rat, ∃ A c, K ≤ N ∧ v = .slice A acc.length c ∧ iv = .int .i64 ((K : Int) - 1) ∧ Hid (RX none wr A acc ∧ acc.length + K = N ∧ (∀ i, acc.getD i 0 = fpR ps acc.length i)) ∧ Up w wr) (fun _ iv _ => (intOf iv + 1).toNat)
    case atStart => exact ⟨N, [], none, 0, Nat.le_refl _, rfl, rfl, Lib.hid ⟨RX.nil_, by simp, fun i => rfl⟩, Up.refl _⟩
    case round =>
      obtain ⟨K, acc, A, c, hKN, rfl, rfl, HH, hU⟩ := hrel
      rename World => wo
      by_cases hK : K = 0
      · subst hK
        have hacc := HH.out
        have t1 : decide ((0 : Int) ≤ -1) = false := by decide
        have HCT := Lib.hid (show cutL acc = cutL (fpL ps) from by
          congr 1
          have hlen : acc.length = ps.length := by have := hacc.2.1; have := HL.out; omega
          refine List.ext_getElem (by rw [hlen, fpL_len]) fun i h1 h2 => ?_
          have e := hacc.2.2 i
          rw [getD_eq h1, hlen] at e
          rw [e]; simp [fpL])
        have HCN := bCanonical_q (cap := c) hacc.1 (B := C) (fun q hq => by
          obtain ⟨i, hi, rfl⟩ := List.getElem_of_mem hq
          have e := hacc.2.2 i
          rw [getD_eq hi] at e
          show qs _ ≤ _
          rw [e]; exact HQP.out _ i (by have := hacc.2.1; omega)) (by omega) (by have := hacc.2.1; omega)
        rw [HCT.out, ← HP.out.1] at HCN
        have HCN := Lib.hid HCN
        have HML := Lib.hid (fpV_len ps)
        clear hacc HCT HH
        go_wp2_with fail
        refine HCN.out.mono ?_
        rintro e w10 ⟨g10, rfl, h1, h2, h3⟩
        have H9 := Lib.hid h2.rx
        clear h2
        go_wp2_with fail
        go_ret2
        exact ⟨_, _, by rw [HP.out.2]; rfl, Nat.le_refl _, by have := HML.out; have := HL.out; omega, H9.out, hU.trans h3⟩
      · obtain ⟨k, rfl⟩ : ∃ k, K = k + 1 := ⟨K - 1, by omega⟩
        have ek : ((k + 1 : Nat) : Int) - 1 = (k : Int) := by omega
        rw [ek]
        clear ek hK
        obtain ⟨r, hr⟩ : ∃ r, r = acc.length := ⟨_, rfl⟩
        have HACC := Lib.hid (show ∀ i, acc.getD i 0 = fpR ps r i by rw [hr]; exact HH.out.2.2)
        have HRK := Lib.hid (show r + (k + 1) = N by rw [hr]; exact HH.out.2.1)
        have HRA := Lib.hid HH.out.1
        have HLR := Lib.hid hr
        have hr33 : r ≤ 33 := by have := HRK.out; omega
        rw [← hr]
        have t1 : decide ((0 : Int) ≤ (k : Int)) = true := by simp
        have i1 : (0 : Int) ≤ k := by omega
        have i2 : (k : Int) < N := by omega
        have i3 : (r : Int) ≤ 33 := by omega
        have HZ := zeros_q (r + 1) (by omega) (w := wo)
        rw [nxL_start (fpR ps r) r, show ((r + 1 : Nat) : Int) = (r : Int) + 1 by omega] at HZ
        replace HZ := Lib.hid HZ
        have HQA := Lib.hid (fun i => HQP.out r i (by omega))
        clear hr HH
        go_wp2_with fail
        refine HZ.out.mono ?_
        rintro e w2 ⟨g, he, hg, hO2, U2⟩
        rw [nxL_len] at he
        subst he
        have HO2 := Lib.hid hO2
        clear hO2 HZ
        go_wp2_with fail
        go_loopw [25] (fun jv wr => ∃ j : Nat, j ≤ r ∧ jv = .int .i64 j ∧ Hid (OX none wr g (nxL (fpR ps r) r j)) ∧ Up wo wr) (fun jv _ => r - (intOf jv).toNat)
        case atStart => exact ⟨0, Nat.zero_le _, rfl, HO2, U2⟩
        case round =>
          obtain ⟨j, hj, rfl, HO0, hUo⟩ := hrel
          clear HO2 U2
          by_cases hjr : j < r
          · have t2 : decide ((j : Int) < (r : Int)) = true := by simp; omega
            have t3 : decide (j < r) = true := by simp; omega
            obtain ⟨b, off, s, X, a, cc, Y, m, d, he, hb, hx, c0, c1, c2⟩ := (HRA.out.up hUo).at_ (k := j) (by rw [← HLR.out]; exact hjr)
            subst he
            rw [HACC.out] at hx
            have j1 : (0 : Int) ≤ j := by omega
            have j2 : (j : Int) < r := by omega
            have j7 : (j : Int) < (r : Int) + 1 := by omega
            have lg0 := HO0.out.lt
            have HX := Lib.hid hx
            clear hx
            go_wp2_with fail
            obtain ⟨w4, hw4⟩ : ∃ w4, w4 = wr.alloc (Obj.cells #[.bool s, .slice X a cc, .slice Y m d] 31) := ⟨_, rfl⟩
            have U4 : Up wr w4 := by rw [hw4]; exact (Below.refl _ _).alloc (Nat.le_refl _) _
            have by_ : Blk w4 wr.heap.size 31 #[.bool s, .slice X a cc, .slice Y m d] := by rw [hw4]; exact Blk.new' _ _ _ rfl
            rw [← hw4]
            obtain ⟨gy, hgy⟩ : ∃ g, g = wr.heap.size := ⟨_, rfl⟩
            have hgy2 : gy ≠ g := by omega
            rw [← hgy] at by_ ⊢
            have HO := Lib.hid (HO0.out.up U4)
            have V4 := hUo.trans U4
            replace HX := Lib.hid (HX.out.up U4)
            clear hw4 hgy U4 lg0 c0 c1 c2 hb HO0 hUo
            obtain ⟨so, Xo, ao, co, Yo, mo, do_, hox, k0, k1, k2⟩ := HO.out.at_ (k := j) (by rw [nxL_len]; omega)
            have lg := HO.out.lt
            have HF1 := Lib.hid (fun (wx : World) => fromInt_q (w := wx) (j : Int) (by omega) (by omega))
            have HF2 := Lib.hid (fun (wx : World) => fromInt_q (w := wx) ((j : Int) + 1) (by omega) (by omega))
            have HQN := Lib.hid (show qs ((nxL (fpR ps r) r j).getD j 0) ≤ 2 * C + 20 by rw [nxL_getD _ _ _ _ (by omega)]; exact qs_nxE _ C HQA.out j j (by omega))
            have HM1 := Lib.hid (fun wx vx (u : Up w4 wx) (h : QV wx vx (((j : Nat) : Int) : Rat)) => mul_q (XV.iv (o := none) (XV.up HX.out u) (HQA.out j)) (h.iv (B := 3) (qs_int _ (by omega) (by omega))) (by omega))
            have HA1 := Lib.hid (fun wx vx (u : Up w4 wx) (h : QV wx vx (fpR ps r j * (((j : Nat) : Int) : Rat))) => add_q (XV.iv (o := none) (hox.up u) HQN.out) (h.iv (Nat.le_trans (qs_mul _ _) (Nat.add_le_add (HQA.out j) (qs_int ((j : Nat) : Int) (by omega) (by omega))))) (by omega))
            have HST := Lib.hid (nxL_step (fpR ps r) r j hjr)
            have HJ1 := Lib.hid (show j < (nxL (fpR ps r) r j).length by rw [nxL_len]; omega)
            obtain ⟨z1, hz1⟩ : ∃ z, z = (nxL (fpR ps r) r j).getD j 0 + fpR ps r j * (((j : Nat) : Int) : Rat) := ⟨_, rfl⟩
            rw [← hz1] at HA1 HST
            have HJ2 := Lib.hid (show j + 1 < ((nxL (fpR ps r) r j).set j z1).length by rw [List.length_set, nxL_len]; omega)
            have HE : Hid (∀ W : World, Up w4 W → (W.cell? ⟨g, j * 3, none⟩ = some (.bool so) ∧ W.cell? ⟨g, j * 3 + 1, none⟩ = some (.slice Xo ao co) ∧ W.cell? ⟨g, j * 3 + 2, none⟩ = some (.slice Yo mo do_)) ∧ (W.cell? ⟨gy, 0, none⟩ = some (.bool s) ∧ W.cell? ⟨gy, 1, none⟩ = some (.slice X a cc) ∧ W.cell? ⟨gy, 2, none⟩ = some (.slice Y m d))) := Lib.hid fun W hW => And.intro (⟨by rw [hW.cell (by exact lg)]; exact k0, by rw [hW.cell (by exact lg)]; exact k1, by rw [hW.cell (by exact lg)]; exact k2⟩) (tri (by_.up hW))
            clear hz1 hox
            go_wp2_with fail
            refine wp_region_noPanic ?_
            refine wp_region_till (S := (fun wx => (wx.cell? ⟨g, j * 3, none⟩ = some (.bool so) ∧ wx.cell? ⟨g, j * 3 + 1, none⟩ = some (.slice Xo ao co) ∧ wx.cell? ⟨g, j * 3 + 2, none⟩ = some (.slice Yo mo do_)) ∧ (wx.cell? ⟨gy, 0, none⟩ = some (.bool s) ∧ wx.cell? ⟨gy, 1, none⟩ = some (.slice X a cc) ∧ wx.cell? ⟨gy, 2, none⟩ = some (.slice Y m d)))) 12 [(0, 0), (1, 0), (2, 0), (3, 0), (4, 0), (5, 0), (6, 0), (7, 0), (8, 1), (9, 1), (10, 1), (11, 0)] [12] (by kernel_rfl) (by as_aux_lemma => kernel_rfl) (by as_aux_lemma => kernel_rfl) (by as_aux_lemma => kernel_rfl) (fun _ _ _ _ _ h => h) (HE.out _ (Up.refl w4).drew) ?_
            intro O5 HO5
            refine wpT_take (i := 0) (v := ?_) (by as_aux_lemma => rw [HO5.out]; simp only [List.getElem?_toArray, List.getElem?_cons_zero]; rfl) (Or.inl ⟨(by rfl), ?_⟩) ?_
            rotate_left
            · as_aux_lemma => intro wx hSx; (try dsimp only at hSx); go_simp; try with_reducible rfl
            try simp only [Act.put, List.setIfInBounds_toArray, List.set_cons_zero, List.set_cons_succ]
            refine wpT_take (i := 1) (v := ?_) (by as_aux_lemma => rw [HO5.out]; simp only [List.getElem?_toArray, List.getElem?_cons_succ, List.getElem?_cons_zero]; rfl) (Or.inl ⟨(by rfl), ?_⟩) ?_
            rotate_left
            · as_aux_lemma => intro wx hSx; (try dsimp only at hSx); go_simp; try with_reducible rfl
            try simp only [Act.put, List.setIfInBounds_toArray, List.set_cons_zero, List.set_cons_succ]
            refine wpT_take (i := 2) (v := ?_) (by as_aux_lemma => rw [HO5.out]; simp only [List.getElem?_toArray, List.getElem?_cons_succ, List.getElem?_cons_zero]; rfl) (Or.inl ⟨(by rfl), ?_⟩) ?_
            rotate_left
            · as_aux_lemma => intro wx hSx; (try dsimp only at hSx); go_simp; try with_reducible rfl
            try simp only [Act.put, List.setIfInBounds_toArray, List.set_cons_zero, List.set_cons_succ]
            refine wpT_take (i := 3) (v := ?_) (by as_aux_lemma => rw [HO5.out]; simp only [List.getElem?_toArray, List.getElem?_cons_succ, List.getElem?_cons_zero]; rfl) (Or.inl ⟨(by rfl), ?_⟩) ?_
            rotate_left
            · as_aux_lemma => intro wx hSx; (try dsimp only at hSx); go_simp; try with_reducible rfl
            try simp only [Act.put, List.setIfInBounds_toArray, List.set_cons_zero, List.set_cons_succ]
            refine wpT_take (i := 4) (v := ?_) (by as_aux_lemma => rw [HO5.out]; simp only [List.getElem?_toArray, List.getElem?_cons_succ, List.getElem?_cons_zero]; rfl) (Or.inl ⟨(by rfl), ?_⟩) ?_
            rotate_left
            · as_aux_lemma => intro wx hSx; (try dsimp only at hSx); go_simp; try with_reducible rfl
            try simp only [Act.put, List.setIfInBounds_toArray, List.set_cons_zero, List.set_cons_succ]
            refine wpT_take (i := 5) (v := ?_) (by as_aux_lemma => rw [HO5.out]; simp only [List.getElem?_toArray, List.getElem?_cons_succ, List.getElem?_cons_zero]; rfl) (Or.inl ⟨(by rfl), ?_⟩) ?_
            rotate_left
            · as_aux_lemma => intro wx hSx; (try dsimp only at hSx); go_simp; try with_reducible rfl
            try simp only [Act.put, List.setIfInBounds_toArray, List.set_cons_zero, List.set_cons_succ]
            refine wpT_take (i := 6) (v := ?_) (by as_aux_lemma => rw [HO5.out]; simp only [List.getElem?_toArray, List.getElem?_cons_succ, List.getElem?_cons_zero]; rfl) (Or.inl ⟨(by rfl), ?_⟩) ?_
            rotate_left
            · as_aux_lemma => intro wx hSx; (try dsimp only at hSx); go_simp; try with_reducible rfl
            try simp only [Act.put, List.setIfInBounds_toArray, List.set_cons_zero, List.set_cons_succ]
            refine wpT_take (i := 7) (v := ?_) (by as_aux_lemma => rw [HO5.out]; simp only [List.getElem?_toArray, List.getElem?_cons_succ, List.getElem?_cons_zero]; rfl) (Or.inl ⟨(by rfl), ?_⟩) ?_
            rotate_left
            · as_aux_lemma => intro wx hSx; (try dsimp only at hSx); go_simp; try with_reducible rfl
            try simp only [Act.put, List.setIfInBounds_toArray, List.set_cons_zero, List.set_cons_succ]
            refine wpT_call (i := 8) (by as_aux_lemma => rw [HO5.out]; simp only [List.getElem?_toArray, List.getElem?_cons_succ, List.getElem?_cons_zero]; rfl) (by rfl) (fun K' hK => ?_)
            go_simp
            refine (HF1.out _).mono ?_
            rintro e w6 ⟨v6, rfl, hQ6, U6⟩
            obtain ⟨s6, A6, n6, c6, B6, m6, d6, rfl⟩ := hQ6.shape
            have HQ6 := Lib.hid hQ6
            have V6 : Up w4 w6 := Up.trans (Up.refl w4).drew U6
            have kk6 := HE.out _ V6
            clear hQ6
            go_wp2_with fail
            refine hK.out _ _ kk6 (fun _ => ?_)
            clear hK K'
            try simp only [Act.put, List.setIfInBounds_toArray, List.set_cons_zero, List.set_cons_succ]
            refine wpT_call (i := 9) (by as_aux_lemma => rw [HO5.out]; simp only [List.getElem?_toArray, List.getElem?_cons_succ, List.getElem?_cons_zero]; rfl) (by rfl) (fun K' hK => ?_)
            go_simp
            refine (HM1.out _ _ V6 HQ6.out).mono ?_
            rintro e w7 ⟨v7, rfl, hQ7, U7⟩
            obtain ⟨s7, A7, n7, c7, B7, m7, d7, rfl⟩ := hQ7.shape
            have HQ7 := Lib.hid hQ7
            have V7 : Up w4 w7 := Up.trans V6 U7
            have kk7 := HE.out _ V7
            clear hQ7
            go_wp2_with fail
            refine hK.out _ _ kk7 (fun _ => ?_)
            clear hK K'
            try simp only [Act.put, List.setIfInBounds_toArray, List.set_cons_zero, List.set_cons_succ]
            refine wpT_call (i := 10) (by as_aux_lemma => rw [HO5.out]; simp only [List.getElem?_toArray, List.getElem?_cons_succ, List.getElem?_cons_zero]; rfl) (by rfl) (fun K' hK => ?_)
            go_simp
            refine (HA1.out _ _ V7 HQ7.out).mono ?_
            rintro e w8 ⟨v8, rfl, hQ8, U8⟩
            obtain ⟨s8, A8, n8, c8, B8, m8, d8, rfl⟩ := hQ8.shape
            have HQ8 := Lib.hid hQ8
            have V8 : Up w4 w8 := Up.trans V7 U8
            have kk8 := HE.out _ V8
            clear hQ8
            obtain ⟨⟨y0, y1, y2⟩, _⟩ := kk8
            have kk8 := HE.out _ V8
            have f0 := (HO.out.up V8).frozen (j * 3)
            have f1 := (HO.out.up V8).frozen (j * 3 + 1)
            have f2 := (HO.out.up V8).frozen (j * 3 + 2)
            go_wp2_with fail
            refine hK.out _ _ kk8 (fun _ => ?_)
            clear hK K'
            try simp only [Act.put, List.setIfInBounds_toArray, List.set_cons_zero, List.set_cons_succ]
            refine wpT_take (i := 11) (v := ?_) (by as_aux_lemma => rw [HO5.out]; simp only [List.getElem?_toArray, List.getElem?_cons_succ, List.getElem?_cons_zero]; rfl) (Or.inl ⟨(by rfl), ?_⟩) ?_
            rotate_left
            · as_aux_lemma => intro wx hSx; (try dsimp only at hSx); go_simp; try with_reducible rfl
            try simp only [Act.put, List.setIfInBounds_toArray, List.set_cons_zero, List.set_cons_succ]
            refine wpT_tail (i := 12) (by as_aux_lemma => rw [HO5.out]; simp only [List.getElem?_toArray, List.getElem?_cons_succ, List.getElem?_cons_zero]; rfl) (by rfl) (fun K' hK => ?_)
            go_simp
            go_wp2_with fail
            refine hK.out _ _ ?_
            clear hK K'
            try simp only [Act.put, List.setIfInBounds_toArray, List.set_cons_zero, List.set_cons_succ]
            refine wpT_end (NoPanic.normal ?_)
            clear HO5 O5
            have HO9 := (HO.out.up V8).put (o := none) HJ1.out (q := z1) HQ8.out
            have hy9 := Blk.put3q (by_.up V8) hgy2 (j * 3) (.bool s8) (.slice A8 n8 c8) (.slice B8 m8 d8)
            have hx9 := XV.kp (XV.up HX.out V8) ((HO.out.up V8).kp_put (j * 3) (.bool s8) (.slice A8 n8 c8) (.slice B8 m8 d8))
            have U9 := up_put (V4.trans V8) hg (j * 3) (.bool s8) (.slice A8 n8 c8) (.slice B8 m8 d8)
            rw [put3_eq]
            obtain ⟨w9, hw9⟩ : ∃ x, x = put3 w8 g (j * 3) (.bool s8) (.slice A8 n8 c8) (.slice B8 m8 d8) := ⟨_, rfl⟩
            rw [← hw9] at HO9 hy9 hx9 U9 ⊢
            have HO9 := Lib.hid HO9
            have HX9 := Lib.hid hx9
            have by9 := hy9
            have HM2 := Lib.hid (fun wx vx (u : Up w9 wx) (h : QV wx vx (((j : Int) + 1 : Int) : Rat)) => mul_q (XV.iv (o := none) (XV.up HX9.out u) (HQA.out j)) (h.iv (B := 3) (qs_int _ (by omega) (by omega))) (by omega))
            obtain ⟨z2, hz2⟩ : ∃ z, z = fpR ps r j * (((j : Int) + 1 : Int) : Rat) := ⟨_, rfl⟩
            rw [← hz2] at HM2 HST
            have HE9 : Hid (∀ W : World, Up w9 W → (W.cell? ⟨gy, 0, none⟩ = some (.bool s) ∧ W.cell? ⟨gy, 1, none⟩ = some (.slice X a cc) ∧ W.cell? ⟨gy, 2, none⟩ = some (.slice Y m d))) := Lib.hid fun W hW => tri (by9.up hW)
            have j3 : (0 : Int) ≤ (j : Int) + 1 := by omega
            have j4 : (j : Int) + 1 < (r : Int) + 1 := by omega
            have j5 : IntKind.i64.wrap ((j : Int) + 1) = (j : Int) + 1 := IntWalk.i64_in _ (by omega)
            have j6 : ((j : Int) + 1).toNat = j + 1 := by omega
            clear hw9 hy9 hx9 hz2 by_ HE k0 k1 k2
            go_wp2_with fail
            refine wp_region_noPanic ?_
            refine wp_region_till (S := (fun wx => (wx.cell? ⟨gy, 0, none⟩ = some (.bool s) ∧ wx.cell? ⟨gy, 1, none⟩ = some (.slice X a cc) ∧ wx.cell? ⟨gy, 2, none⟩ = some (.slice Y m d)))) 9 [(0, 0), (1, 0), (2, 0), (3, 0), (4, 0), (5, 0), (6, 1), (7, 1), (8, 0)] [9] (by kernel_rfl) (by as_aux_lemma => kernel_rfl) (by as_aux_lemma => kernel_rfl) (by as_aux_lemma => kernel_rfl) (fun _ _ _ _ _ h => h) (HE9.out _ (Up.refl w9).drew) ?_
            intro O6 HO6
            refine wpT_take (i := 0) (v := ?_) (by as_aux_lemma => rw [HO6.out]; simp only [List.getElem?_toArray, List.getElem?_cons_zero]; rfl) (Or.inl ⟨(by rfl), ?_⟩) ?_
            rotate_left
            · as_aux_lemma => intro wx hSx; (try dsimp only at hSx); go_simp; try with_reducible rfl
            try simp only [Act.put, List.setIfInBounds_toArray, List.set_cons_zero, List.set_cons_succ]
            refine wpT_take (i := 1) (v := ?_) (by as_aux_lemma => rw [HO6.out]; simp only [List.getElem?_toArray, List.getElem?_cons_succ, List.getElem?_cons_zero]; rfl) (Or.inl ⟨(by rfl), ?_⟩) ?_
            rotate_left
            · as_aux_lemma => intro wx hSx; (try dsimp only at hSx); go_simp; try with_reducible rfl
            try simp only [Act.put, List.setIfInBounds_toArray, List.set_cons_zero, List.set_cons_succ]
            refine wpT_take (i := 2) (v := ?_) (by as_aux_lemma => rw [HO6.out]; simp only [List.getElem?_toArray, List.getElem?_cons_succ, List.getElem?_cons_zero]; rfl) (Or.inl ⟨(by rfl), ?_⟩) ?_
            rotate_left
            · as_aux_lemma => intro wx hSx; (try dsimp only at hSx); go_simp; try with_reducible rfl
            try simp only [Act.put, List.setIfInBounds_toArray, List.set_cons_zero, List.set_cons_succ]
            refine wpT_take (i := 3) (v := ?_) (by as_aux_lemma => rw [HO6.out]; simp only [List.getElem?_toArray, List.getElem?_cons_succ, List.getElem?_cons_zero]; rfl) (Or.inl ⟨(by rfl), ?_⟩) ?_
            rotate_left
            · as_aux_lemma => intro wx hSx; (try dsimp only at hSx); go_simp; try with_reducible rfl
            try simp only [Act.put, List.setIfInBounds_toArray, List.set_cons_zero, List.set_cons_succ]
            refine wpT_take (i := 4) (v := ?_) (by as_aux_lemma => rw [HO6.out]; simp only [List.getElem?_toArray, List.getElem?_cons_succ, List.getElem?_cons_zero]; rfl) (Or.inl ⟨(by rfl), ?_⟩) ?_
            rotate_left
            · as_aux_lemma => intro wx hSx; (try dsimp only at hSx); go_simp; try with_reducible rfl
            try simp only [Act.put, List.setIfInBounds_toArray, List.set_cons_zero, List.set_cons_succ]
            refine wpT_take (i := 5) (v := ?_) (by as_aux_lemma => rw [HO6.out]; simp only [List.getElem?_toArray, List.getElem?_cons_succ, List.getElem?_cons_zero]; rfl) (Or.inl ⟨(by rfl), ?_⟩) ?_
            rotate_left
            · as_aux_lemma => intro wx hSx; (try dsimp only at hSx); go_simp; try with_reducible rfl
            try simp only [Act.put, List.setIfInBounds_toArray, List.set_cons_zero, List.set_cons_succ]
            refine wpT_call (i := 6) (by as_aux_lemma => rw [HO6.out]; simp only [List.getElem?_toArray, List.getElem?_cons_succ, List.getElem?_cons_zero]; rfl) (by rfl) (fun K' hK => ?_)
            go_simp
            refine (HF2.out _).mono ?_
            rintro e w10 ⟨v10, rfl, hQ10, U10⟩
            obtain ⟨s10, A10, n10, c10, B10, m10, d10, rfl⟩ := hQ10.shape
            have HQ10 := Lib.hid hQ10
            have V10 : Up w9 w10 := Up.trans (Up.refl w9).drew U10
            have kk10 := HE9.out _ V10
            clear hQ10
            go_wp2_with fail
            refine hK.out _ _ kk10 (fun _ => ?_)
            clear hK K'
            try simp only [Act.put, List.setIfInBounds_toArray, List.set_cons_zero, List.set_cons_succ]
            refine wpT_call (i := 7) (by as_aux_lemma => rw [HO6.out]; simp only [List.getElem?_toArray, List.getElem?_cons_succ, List.getElem?_cons_zero]; rfl) (by rfl) (fun K' hK => ?_)
            go_simp
            refine (HM2.out _ _ V10 HQ10.out).mono ?_
            rintro e w11 ⟨v11, rfl, hQ11, U11⟩
            obtain ⟨s11, A11, n11, c11, B11, m11, d11, rfl⟩ := hQ11.shape
            have HQ11 := Lib.hid hQ11
            have V11 : Up w9 w11 := Up.trans V10 U11
            have kk11 := HE9.out _ V11
            clear hQ11
            obtain ⟨x1, x2, x3, x4, x5, x6, x7, _, y0, y1, y2⟩ := (HO9.out.up V11).at_ HJ2.out
            have f0 := (HO9.out.up V11).frozen ((j + 1) * 3)
            have f1 := (HO9.out.up V11).frozen ((j + 1) * 3 + 1)
            have f2 := (HO9.out.up V11).frozen ((j + 1) * 3 + 2)
            go_wp2_with fail
            refine hK.out _ _ kk11 (fun _ => ?_)
            clear hK K'
            try simp only [Act.put, List.setIfInBounds_toArray, List.set_cons_zero, List.set_cons_succ]
            refine wpT_take (i := 8) (v := ?_) (by as_aux_lemma => rw [HO6.out]; simp only [List.getElem?_toArray, List.getElem?_cons_succ, List.getElem?_cons_zero]; rfl) (Or.inl ⟨(by rfl), ?_⟩) ?_
            rotate_left
            · as_aux_lemma => intro wx hSx; (try dsimp only at hSx); go_simp; try with_reducible rfl
            try simp only [Act.put, List.setIfInBounds_toArray, List.set_cons_zero, List.set_cons_succ]
            refine wpT_tail (i := 9) (by as_aux_lemma => rw [HO6.out]; simp only [List.getElem?_toArray, List.getElem?_cons_succ, List.getElem?_cons_zero]; rfl) (by rfl) (fun K' hK => ?_)
            go_simp
            go_wp2_with fail
            refine hK.out _ _ ?_
            clear hK K'
            try simp only [Act.put, List.setIfInBounds_toArray, List.set_cons_zero, List.set_cons_succ]
            refine wpT_end (NoPanic.normal ?_)
            clear HO6 O6
            have HO12 := (HO9.out.up V11).put (o := none) HJ2.out (q := z2) HQ11.out
            rw [HST.out] at HO12
            have U12 := up_put (U9.trans V11) hg ((j + 1) * 3) (.bool s11) (.slice A11 n11 c11) (.slice B11 m11 d11)
            have HO12 := Lib.hid HO12
            clear j3 j4 j5 j6
            go_wp2_with fail
            rw [put3_eq]
            go_roundw
            case rel => exact ⟨j + 1, by omega, by go_num, HO12, U12⟩
            case measure => simp [intOf]; omega
          · have t2 : decide ((j : Int) < (r : Int)) = false := by simp; omega
            have t3 : decide (j < r) = false := by simp; omega
            obtain rfl : j = r := by omega
            have HO := HO0
            have h0l : 0 < (nxL (fpR ps j) j j).length := by rw [nxL_len]; omega
            obtain ⟨so, Xo, ao, co, Yo, mo, do_, hox, k0, k1, k2⟩ := HO.out.at_ h0l
            simp only [Nat.zero_mul, Nat.zero_add] at k0 k1 k2
            have lg := HO.out.lt
            obtain ⟨b, off, sp, Xp, ap, cp, Yp, mp, dp, he, hb, hx, c0w, c1w, c2w⟩ := (HR.out.up (hU.trans hUo)).at_ (k := k) (by have := HL.out; omega)
            subst he
            have hbw := hb
            have HQN := Lib.hid (show qs ((nxL (fpR ps j) j j).getD 0 0) ≤ 2 * C + 20 by rw [nxL_getD _ _ _ _ (by omega)]; exact qs_nxE _ C HQA.out j 0 (by omega))
            have HAD := Lib.hid (fun wx (u : Up wr wx) => add_q (XV.iv (o := none) (hox.up u) HQN.out) (XV.iv (hx.up u) (B := B) (Nat.le_refl _)) (by omega))
            have HST := Lib.hid (nxL_end ps j k (by have := HRK.out; have := HL.out; omega))
            obtain ⟨z, hz⟩ : ∃ z, z = (nxL (fpR ps j) j j).getD 0 0 + ps.getD k 0 := ⟨_, rfl⟩
            rw [← hz] at HAD HST
            have H0L := Lib.hid h0l
            have HLN := Lib.hid (nxL_len (fpR ps j) j j)
            have HE : Hid (∀ W : World, Up wr W → (W.cell? ⟨g, 0, none⟩ = some (.bool so) ∧ W.cell? ⟨g, 1, none⟩ = some (.slice Xo ao co) ∧ W.cell? ⟨g, 2, none⟩ = some (.slice Yo mo do_)) ∧ (W.cell? ⟨b, off + k * 3, none⟩ = some (.bool sp) ∧ W.cell? ⟨b, off + k * 3 + 1, none⟩ = some (.slice Xp ap cp) ∧ W.cell? ⟨b, off + k * 3 + 2, none⟩ = some (.slice Yp mp dp))) := Lib.hid fun W hW => And.intro (⟨by rw [hW.cell (by exact lg)]; exact k0, by rw [hW.cell (by exact lg)]; exact k1, by rw [hW.cell (by exact lg)]; exact k2⟩) (⟨by rw [hW.cell (by exact hbw)]; exact c0w, by rw [hW.cell (by exact hbw)]; exact c1w, by rw [hW.cell (by exact hbw)]; exact c2w⟩)
            clear hz hox hx h0l HO0
            go_wp2_with fail
            refine wp_region_noPanic ?_
            refine wp_region_till (S := (fun wx => (wx.cell? ⟨g, 0, none⟩ = some (.bool so) ∧ wx.cell? ⟨g, 1, none⟩ = some (.slice Xo ao co) ∧ wx.cell? ⟨g, 2, none⟩ = some (.slice Yo mo do_)) ∧ (wx.cell? ⟨b, off + k * 3, none⟩ = some (.bool sp) ∧ wx.cell? ⟨b, off + k * 3 + 1, none⟩ = some (.slice Xp ap cp) ∧ wx.cell? ⟨b, off + k * 3 + 2, none⟩ = some (.slice Yp mp dp)))) 10 [(0, 0), (1, 0), (2, 0), (3, 0), (4, 0), (5, 0), (6, 0), (7, 0), (8, 1), (9, 0)] [10] (by kernel_rfl) (by as_aux_lemma => kernel_rfl) (by as_aux_lemma => kernel_rfl) (by as_aux_lemma => kernel_rfl) (fun _ _ _ _ _ h => h) (HE.out _ (Up.refl wr).drew) ?_
            intro O7 HO7
            refine wpT_take (i := 0) (v := ?_) (by as_aux_lemma => rw [HO7.out]; simp only [List.getElem?_toArray, List.getElem?_cons_zero]; rfl) (Or.inl ⟨(by rfl), ?_⟩) ?_
            rotate_left
            · as_aux_lemma => intro wx hSx; (try dsimp only at hSx); go_simp; try with_reducible rfl
            try simp only [Act.put, List.setIfInBounds_toArray, List.set_cons_zero, List.set_cons_succ]
            refine wpT_take (i := 1) (v := ?_) (by as_aux_lemma => rw [HO7.out]; simp only [List.getElem?_toArray, List.getElem?_cons_succ, List.getElem?_cons_zero]; rfl) (Or.inl ⟨(by rfl), ?_⟩) ?_
            rotate_left
            · as_aux_lemma => intro wx hSx; (try dsimp only at hSx); go_simp; try with_reducible rfl
            try simp only [Act.put, List.setIfInBounds_toArray, List.set_cons_zero, List.set_cons_succ]
            refine wpT_take (i := 2) (v := ?_) (by as_aux_lemma => rw [HO7.out]; simp only [List.getElem?_toArray, List.getElem?_cons_succ, List.getElem?_cons_zero]; rfl) (Or.inl ⟨(by rfl), ?_⟩) ?_
            rotate_left
            · as_aux_lemma => intro wx hSx; (try dsimp only at hSx); go_simp; try with_reducible rfl
            try simp only [Act.put, List.setIfInBounds_toArray, List.set_cons_zero, List.set_cons_succ]
            refine wpT_take (i := 3) (v := ?_) (by as_aux_lemma => rw [HO7.out]; simp only [List.getElem?_toArray, List.getElem?_cons_succ, List.getElem?_cons_zero]; rfl) (Or.inl ⟨(by rfl), ?_⟩) ?_
            rotate_left
            · as_aux_lemma => intro wx hSx; (try dsimp only at hSx); go_simp; try with_reducible rfl
            try simp only [Act.put, List.setIfInBounds_toArray, List.set_cons_zero, List.set_cons_succ]
            refine wpT_take (i := 4) (v := ?_) (by as_aux_lemma => rw [HO7.out]; simp only [List.getElem?_toArray, List.getElem?_cons_succ, List.getElem?_cons_zero]; rfl) (Or.inl ⟨(by rfl), ?_⟩) ?_
            rotate_left
            · as_aux_lemma => intro wx hSx; (try dsimp only at hSx); go_simp; try with_reducible rfl
            try simp only [Act.put, List.setIfInBounds_toArray, List.set_cons_zero, List.set_cons_succ]
            refine wpT_take (i := 5) (v := ?_) (by as_aux_lemma => rw [HO7.out]; simp only [List.getElem?_toArray, List.getElem?_cons_succ, List.getElem?_cons_zero]; rfl) (Or.inl ⟨(by rfl), ?_⟩) ?_
            rotate_left
            · as_aux_lemma => intro wx hSx; (try dsimp only at hSx); go_simp; try with_reducible rfl
            try simp only [Act.put, List.setIfInBounds_toArray, List.set_cons_zero, List.set_cons_succ]
            refine wpT_take (i := 6) (v := ?_) (by as_aux_lemma => rw [HO7.out]; simp only [List.getElem?_toArray, List.getElem?_cons_succ, List.getElem?_cons_zero]; rfl) (Or.inl ⟨(by rfl), ?_⟩) ?_
            rotate_left
            · as_aux_lemma => intro wx hSx; (try dsimp only at hSx); go_simp; try with_reducible rfl
            try simp only [Act.put, List.setIfInBounds_toArray, List.set_cons_zero, List.set_cons_succ]
            refine wpT_take (i := 7) (v := ?_) (by as_aux_lemma => rw [HO7.out]; simp only [List.getElem?_toArray, List.getElem?_cons_succ, List.getElem?_cons_zero]; rfl) (Or.inl ⟨(by rfl), ?_⟩) ?_
            rotate_left
            · as_aux_lemma => intro wx hSx; (try dsimp only at hSx); go_simp; try with_reducible rfl
            try simp only [Act.put, List.setIfInBounds_toArray, List.set_cons_zero, List.set_cons_succ]
            refine wpT_call (i := 8) (by as_aux_lemma => rw [HO7.out]; simp only [List.getElem?_toArray, List.getElem?_cons_succ, List.getElem?_cons_zero]; rfl) (by rfl) (fun K' hK => ?_)
            go_simp
            refine (HAD.out _ (Up.refl wr).drew).mono ?_
            rintro e w6 ⟨v6, rfl, hQ6, U6⟩
            obtain ⟨s6, A6, n6, c6, B6, m6, d6, rfl⟩ := hQ6.shape
            have HQ6 := Lib.hid hQ6
            have V6 : Up wr w6 := Up.trans (Up.refl wr).drew U6
            have kk6 := HE.out _ V6
            clear hQ6
            obtain ⟨⟨y0, y1, y2⟩, _⟩ := kk6
            have kk6 := HE.out _ V6
            have f0 := (HO.out.up V6).frozen 0
            have f1 := (HO.out.up V6).frozen 1
            have f2 := (HO.out.up V6).frozen 2
            go_wp2_with fail
            refine hK.out _ _ kk6 (fun _ => ?_)
            clear hK K'
            try simp only [Act.put, List.setIfInBounds_toArray, List.set_cons_zero, List.set_cons_succ]
            refine wpT_take (i := 9) (v := ?_) (by as_aux_lemma => rw [HO7.out]; simp only [List.getElem?_toArray, List.getElem?_cons_succ, List.getElem?_cons_zero]; rfl) (Or.inl ⟨(by rfl), ?_⟩) ?_
            rotate_left
            · as_aux_lemma => intro wx hSx; (try dsimp only at hSx); go_simp; try with_reducible rfl
            try simp only [Act.put, List.setIfInBounds_toArray, List.set_cons_zero, List.set_cons_succ]
            refine wpT_tail (i := 10) (by as_aux_lemma => rw [HO7.out]; simp only [List.getElem?_toArray, List.getElem?_cons_succ, List.getElem?_cons_zero]; rfl) (by rfl) (fun K' hK => ?_)
            go_simp
            go_wp2_with fail
            refine hK.out _ _ ?_
            clear hK K'
            try simp only [Act.put, List.setIfInBounds_toArray, List.set_cons_zero, List.set_cons_succ]
            refine wpT_end (NoPanic.normal ?_)
            clear HO7 O7
            have HO9 := (HO.out.up V6).put (o := none) H0L.out (q := z) HQ6.out
            rw [Nat.zero_mul] at HO9
            have U9 := up_put (hUo.trans V6) hg 0 (.bool s6) (.slice A6 n6 c6) (.slice B6 m6 d6)
            have HLS := Lib.hid (show ((nxL (fpR ps j) j j).set 0 z).length = j + 1 by rw [List.length_set, HLN.out])
            have HH9 := Lib.hid (show RX none _ (some ⟨g, 0, none⟩) ((nxL (fpR ps j) j j).set 0 z) ∧ ((nxL (fpR ps j) j j).set 0 z).length + k = N ∧ (∀ i, ((nxL (fpR ps j) j j).set 0 z).getD i 0 = fpR ps ((nxL (fpR ps j) j j).set 0 z).length i) from
              ⟨HO9.rx, by rw [HLS.out]; have := HRK.out; omega, fun i => by rw [HST.out, HLS.out]⟩)
            clear HO9
            go_wp2_with fail
            rw [put3_eq]
            go_roundw
            case rel => exact ⟨k, (nxL (fpR ps j) j j).set 0 z, some ⟨g, 0, none⟩, j + 1, by omega, by rw [HLS.out], rfl, HH9, hU.trans U9⟩
            case measure => simp [intOf]
  · have HP := Lib.hid (HNO h33)
    have t0 : decide (33 < ps.length) = true := by simp; omega
    have t0i : decide ((33 : Int) < (ps.length : Int)) = true := by simp; omega
    clear h33 h hB
    go_enter Try.func20, Try.ntmps20
    go_wp2_with fail
    go_ret2
    exact ⟨none, 0, by rw [HP.out.1, HP.out.2]; rfl, by rw [HP.out.1]; exact Nat.le_refl _, by omega, by rw [HP.out.1]; exact RX.nil_, Up.refl _⟩
end Go.Proofs.Ytkngegcfdabpoaa
