/-
  binomial.Shift.
-/
import Derived.Test.YtiiebgfjdkkdeaaLShiftR
import Derived.Test.YtiiebgfjdkkdeaaLZero
import Derived.Test.YtiiebgfjdkkdeaaLEval
import Derived.Test.YtiiebgfjdkkdeaaLRow
namespace Go.Proofs.Ytiiebgfjdkkdeaa
open Go.RowKit

/-- The entries after k rounds and j steps of the next. -/
def shE (ps : List Rat) (c : Rat) (k j i : Nat) : Rat := sm (if i < j then k + 1 else k) (fun t => if i ≤ t then ps.getD t 0 * bc c (t - i) else 0)
def shL (ps : List Rat) (c : Rat) (k j : Nat) : List Rat := (List.range ps.length).map (shE ps c k j)
theorem shL_len (ps : List Rat) (c : Rat) (k j : Nat) : (shL ps c k j).length = ps.length := by simp [shL]
theorem shL_getD (ps : List Rat) (c : Rat) (k j i : Nat) (h : i < ps.length) : (shL ps c k j).getD i 0 = shE ps c k j i := by unfold shL; rw [range_getD, if_pos h]
theorem shL_start (ps : List Rat) (c : Rat) : List.replicate ps.length 0 = shL ps c 0 0 := by
  rw [zeros_map]
  refine map_congr' fun i _ => ?_
  rw [shE, if_neg (by omega), sm_zero]
theorem shL_step (ps : List Rat) (c : Rat) (k j : Nat) (hj : j ≤ k) (hk : k < ps.length) : (shL ps c k j).set j ((shL ps c k j).getD j 0 + ps.getD k 0 * bc c (k - j)) = shL ps c k (j + 1) := by
  rw [shL_getD _ _ _ _ _ (by omega)]
  unfold shL
  rw [map_set]
  refine map_congr' fun i _ => ?_
  by_cases e : i = j
  · subst e
    rw [if_pos rfl, shE, if_neg (by omega), shE, if_pos (by omega), sm_succ, if_pos hj]
  · rw [if_neg e, shE, shE]
    by_cases h : i < j
    · rw [if_pos h, if_pos (by omega)]
    · rw [if_neg h, if_neg (by omega)]
theorem shL_next (ps : List Rat) (c : Rat) (k : Nat) : shL ps c k (k + 1) = shL ps c (k + 1) 0 := by
  refine map_congr' fun i _ => ?_
  rw [shE, shE, if_neg (by omega : ¬ i < 0)]
  by_cases h : i < k + 1
  · rw [if_pos h]
  · rw [if_neg h, sm_succ, if_neg (by omega)]; grind
theorem shL_end (ps : List Rat) (c : Rat) : shL ps c ps.length 0 = psh ps c := map_congr' fun i _ => by rw [shE, if_neg (by omega), pshC]
theorem qs_shE (ps : List Rat) (B : Nat) (h : ∀ q ∈ ps, qs q ≤ B) (hB : 3 ≤ B) (c : Int) (h1 : -4611686018427387904 ≤ c) (h2 : c ≤ 9223372036854775807) (k j i : Nat) (hk : k ≤ 63) : qs (shE ps (c : Rat) k j i) ≤ 64 * (B + 388) + 3 := by
  refine Nat.le_trans (qs_sm _ _ (B + 387) fun t ht => ?_) ?_
  · have ht' : t ≤ 63 := by split at ht <;> omega
    split
    · have a1 := qs_mul (ps.getD t 0) (bc (c : Rat) (t - i))
      have a2 := qs_getD h hB t
      have a3 := qs_bc c h1 h2 (t - i) (by omega)
      omega
    · have := qs_zero; omega
  · refine Nat.add_le_add_right (Nat.mul_le_mul ?_ (Nat.le_refl _)) _
    split <;> omega
theorem qs_shL (ps : List Rat) (B : Nat) (h : ∀ q ∈ ps, qs q ≤ B) (hB : 3 ≤ B) (c : Int) (h1 : -4611686018427387904 ≤ c) (h2 : c ≤ 9223372036854775807) (k j : Nat) (hk : k ≤ 63) : ∀ q ∈ shL ps (c : Rat) k j, qs q ≤ 64 * (B + 388) + 3 := fun q hq => by
  simp only [shL, List.mem_map] at hq
  obtain ⟨i, _, rfl⟩ := hq
  exact qs_shE ps B h hB c h1 h2 k j i hk
theorem Blk.put3 {w : World} {g h : Nat} {t : TypeId} {cs : Array Value} (hb : Blk w h t cs) (hne : h ≠ g) (i : Nat) (x y z : Value) : Blk (Go.Proofs.Ytiiebgfjdkkdeaa.put3 w g i x y z) h t cs :=
  ((put3_only w g i x y z).block h hb.lt (fun e => hne (by injection e))).trans hb

set_option maxRecDepth 100000 in
set_option maxHeartbeats 3200000 in
theorem shift_q {o : Option Nat} {A : Option Addr} {cap : Nat} {ps : List Rat} {B : Nat} {w : World} (h : RX o w A ps) (hB : ∀ q ∈ ps, XB o q B) (hB2 : 2 ≤ B) (hB' : B ≤ 90000) (hl : ps.length ≤ 1000) (c : Int) (hc1 : -9223372036854775808 ≤ c) (hc2 : c ≤ 9223372036854775807) :
    Calls Try.prog 24 #[.slice A ps.length cap, .int .i64 c] w (RetLB w (shV ps c) (shB ps c)) := by
  by_cases hyes : ps.length ≤ 33 ∧ -1048576 ≤ c ∧ c ≤ 1048576
  · obtain ⟨hl33, hcl, hch⟩ := hyes
    have HP := Lib.hid (sh_yes hl33 hcl hch)
    have hq := h.qs hB
    have HQL := Lib.hid (fun k j (hk : k ≤ 63) => qs_shL ps (B + 1) hq (by omega) c (by omega) (by omega) k j hk)
    have HQE := Lib.hid (fun k j i (hk : k ≤ 63) => qs_shE ps (B + 1) hq (by omega) c (by omega) (by omega) k j i hk)
    have HQB := Lib.hid (fun k (hk : k ≤ 64) => Nat.le_trans (qs_bc c (by omega) (by omega) k hk) (by omega : 6 * k + 3 ≤ 387))
    have HFA := Lib.hid (fun k (hk : k ≤ 64) (wx : World) => falling_q (w := wx) c k (by omega) (by omega) hk)
    have HZ := Lib.hid (zeros_q ps.length (by omega) (w := w))
    rw [shL_start ps (c : Rat)] at HZ
    obtain ⟨M, hM⟩ : ∃ M : Rat, M = (c : Rat) := ⟨_, rfl⟩
    rw [← hM] at HP HQL HQE HQB HFA HZ
    have HR := Lib.hid (h.iv hB)
    obtain ⟨N, hN⟩ : ∃ L, L = ps.length := ⟨_, rfl⟩
    have HL := Lib.hid hN
    rw [← hN] at hl33 HZ ⊢
    have t0 : decide (33 < N) = false := by simp; omega
    have t0i : decide ((33 : Int) < (N : Int)) = false := by simp; omega
    have t1 : decide (c < -1048576) = false := by simp; omega
    have t2 : decide (1048576 < c) = false := by simp; omega
    clear h hB hN hl hq hM
    go_enter Try.func24, Try.ntmps24
    go_wp2_with fail
    refine HZ.out.mono ?_
    rintro e w1 ⟨g, he, hg, hO, U1⟩
    rw [shL_len, ← HL.out] at he
    subst he
    have HO1 := Lib.hid hO
    clear HZ hO
    go_wp2_with fail
    go_loopw [26] (fun iv wr => ∃ k : Nat, k ≤ N ∧ iv = .int .i64 k ∧ Hid (OX none wr g (shL ps M k 0)) ∧ Up w wr) (fun iv _ => N - (intOf iv).toNat)
    case atStart => exact ⟨0, Nat.zero_le _, rfl, HO1, U1⟩
    case round =>
      obtain ⟨k, hk, rfl, HO, hU⟩ := hrel
      clear HO1 U1 t0 t0i t1 t2
      by_cases hkN : k < N
      · have t1 : decide ((k : Int) < (N : Int)) = true := by simp; omega
        obtain ⟨b, off, s, X, a, cc, Y, m, d, rfl, hb, hx, c0, c1, c2⟩ := (HR.out.up hU).at_ (k := k) (by have := HL.out; omega)
        have ki1 : (0 : Int) ≤ k := by omega
        have ki2 : (k : Int) < N := by omega
        have lg := HO.out.lt
        have HX := Lib.hid hx
        clear hx
        go_wp2_with fail
        obtain ⟨w4, hw4⟩ : ∃ w4, w4 = wr.alloc (Obj.cells #[.bool s, .slice X a cc, .slice Y m d] 24) := ⟨_, rfl⟩
        have U4 : Up wr w4 := by rw [hw4]; exact (Below.refl _ _).alloc (Nat.le_refl _) _
        have by4 : Blk w4 wr.heap.size 24 #[.bool s, .slice X a cc, .slice Y m d] := by rw [hw4]; exact Blk.new' _ _ _ rfl
        rw [← hw4]
        obtain ⟨gy, hgy⟩ : ∃ g, g = wr.heap.size := ⟨_, rfl⟩
        have hgy2 : gy ≠ g := by omega
        rw [← hgy] at by4 ⊢
        have HI4 := Lib.hid (And.intro (HO.out.up U4) (And.intro by4 (XV.up (o := some B) HX.out U4)))
        have V4 := hU.trans U4
        clear hw4 hgy by4 U4 lg HX c0 c1 c2 hb
        go_loopw [33] (fun iv wr => ∃ j : Nat, j ≤ k + 1 ∧ iv = .int .i64 j ∧ Hid (OX none wr g (shL ps M k j) ∧ Blk wr gy 24 #[.bool s, .slice X a cc, .slice Y m d] ∧ XV (some B) wr (.agg #[.bool s, .slice X a cc, .slice Y m d]) (ps.getD k 0)) ∧ Up w wr) (fun iv _ => k + 1 - (intOf iv).toNat)
        case atStart => exact ⟨0, Nat.zero_le _, rfl, HI4, V4⟩
        case round =>
          obtain ⟨j, hj, rfl, HI, hU⟩ := hrel
          clear HI4 V4 HO
          obtain ⟨ho, by_, hx⟩ := HI.out
          have HO := Lib.hid ho
          by_cases hjk : j ≤ k
          · have t2 : decide ((j : Int) < (k : Int) + 1) = true := by simp; omega
            have t3 : decide (j < k + 1) = true := by simp; omega
            have hjl : j < (shL ps M k j).length := by rw [shL_len, ← HL.out]; omega
            obtain ⟨so, Xo, ao, co, Yo, mo, do_, hox, c0, c1, c2⟩ := ho.at_ hjl
            have lg := ho.lt
            have HF := Lib.hid (fun (wx : World) => HFA.out (k - j) (by omega) wx)
            rw [show ((k - j : Nat) : Int) = (k : Int) - (j : Int) from by omega] at HF
            have HQP := Lib.hid (XB.le (B := B) hx (Nat.le_refl _))
            have HQO := Lib.hid (show qs ((shL ps M k j).getD j 0) ≤ 64 * (B + 1 + 388) + 3 by rw [shL_getD _ _ _ _ _ (by rw [← HL.out]; omega)]; exact HQE.out k j j (by omega))
            have HM := Lib.hid (fun wx vx (u : Up wr wx) (h : QV wx vx (bc M (k - j))) => mul_q (XV.iv (hx.up u) (B := B) (Nat.le_refl _)) (h.iv (HQB.out (k - j) (by omega))) (by omega))
            have HA := Lib.hid (fun wx vx (u : Up wr wx) (h : QV wx vx (ps.getD k 0 * bc M (k - j))) => add_q (XV.iv (o := none) (hox.up u) HQO.out) (h.iv (Nat.le_trans (qs_mul _ _) (Nat.add_le_add HQP.out (HQB.out (k - j) (by omega))))) (by omega))
            have HST := Lib.hid (shL_step ps M k j hjk (by rw [← HL.out]; omega))
            obtain ⟨z, hz⟩ : ∃ z, z = (shL ps M k j).getD j 0 + ps.getD k 0 * bc M (k - j) := ⟨_, rfl⟩
            rw [← hz] at HA HST
            have HJL := Lib.hid hjl
            have HE : Hid (∀ W : World, Up wr W → (W.cell? ⟨g, j * 3, none⟩ = some (.bool so) ∧ W.cell? ⟨g, j * 3 + 1, none⟩ = some (.slice Xo ao co) ∧ W.cell? ⟨g, j * 3 + 2, none⟩ = some (.slice Yo mo do_)) ∧ (W.cell? ⟨gy, 0, none⟩ = some (.bool s) ∧ W.cell? ⟨gy, 1, none⟩ = some (.slice X a cc) ∧ W.cell? ⟨gy, 2, none⟩ = some (.slice Y m d))) := Lib.hid fun W hW => And.intro (⟨by rw [hW.cell (by exact lg)]; exact c0, by rw [hW.cell (by exact lg)]; exact c1, by rw [hW.cell (by exact lg)]; exact c2⟩) (tri (by_.up hW))
            have ki3 : (0 : Int) ≤ j := by omega
            have ki4 : (j : Int) ≤ k := by omega
            have ki5 : (j : Int) < N := by omega
            have ki6 : IntKind.i64.wrap ((k : Int) - (j : Int)) = (k : Int) - (j : Int) := IntWalk.i64_in _ (by omega)
            clear hz hjl hox hx ho
            go_wp2_with fail
            refine wp_region_noPanic ?_
            refine wp_region_till (S := (fun wx => (wx.cell? ⟨g, j * 3, none⟩ = some (.bool so) ∧ wx.cell? ⟨g, j * 3 + 1, none⟩ = some (.slice Xo ao co) ∧ wx.cell? ⟨g, j * 3 + 2, none⟩ = some (.slice Yo mo do_)) ∧ (wx.cell? ⟨gy, 0, none⟩ = some (.bool s) ∧ wx.cell? ⟨gy, 1, none⟩ = some (.slice X a cc) ∧ wx.cell? ⟨gy, 2, none⟩ = some (.slice Y m d)))) 15 [(0, 0), (1, 0), (2, 0), (3, 0), (4, 0), (5, 0), (6, 0), (7, 0), (8, 0), (9, 0), (10, 0), (11, 1), (12, 1), (13, 1), (14, 0)] [15] (by kernel_rfl) (by as_aux_lemma => kernel_rfl) (by as_aux_lemma => kernel_rfl) (by as_aux_lemma => kernel_rfl) (fun _ _ _ _ _ h => h) (HE.out _ (Up.refl wr).drew) ?_
            intro O1 HO1
            refine wpT_take (i := 0) (v := ?_) (by as_aux_lemma => rw [HO1.out]; simp only [List.getElem?_toArray, List.getElem?_cons_zero]; rfl) (Or.inl ⟨(by rfl), ?_⟩) ?_
            rotate_left
            · as_aux_lemma => intro wx hSx; (try dsimp only at hSx); go_simp; try with_reducible rfl
            try simp only [Act.put, List.setIfInBounds_toArray, List.set_cons_zero, List.set_cons_succ]
            refine wpT_take (i := 1) (v := ?_) (by as_aux_lemma => rw [HO1.out]; simp only [List.getElem?_toArray, List.getElem?_cons_succ, List.getElem?_cons_zero]; rfl) (Or.inl ⟨(by rfl), ?_⟩) ?_
            rotate_left
            · as_aux_lemma => intro wx hSx; (try dsimp only at hSx); go_simp; try with_reducible rfl
            try simp only [Act.put, List.setIfInBounds_toArray, List.set_cons_zero, List.set_cons_succ]
            refine wpT_take (i := 2) (v := ?_) (by as_aux_lemma => rw [HO1.out]; simp only [List.getElem?_toArray, List.getElem?_cons_succ, List.getElem?_cons_zero]; rfl) (Or.inl ⟨(by rfl), ?_⟩) ?_
            rotate_left
            · as_aux_lemma => intro wx hSx; (try dsimp only at hSx); go_simp; try with_reducible rfl
            try simp only [Act.put, List.setIfInBounds_toArray, List.set_cons_zero, List.set_cons_succ]
            refine wpT_take (i := 3) (v := ?_) (by as_aux_lemma => rw [HO1.out]; simp only [List.getElem?_toArray, List.getElem?_cons_succ, List.getElem?_cons_zero]; rfl) (Or.inl ⟨(by rfl), ?_⟩) ?_
            rotate_left
            · as_aux_lemma => intro wx hSx; (try dsimp only at hSx); go_simp; try with_reducible rfl
            try simp only [Act.put, List.setIfInBounds_toArray, List.set_cons_zero, List.set_cons_succ]
            refine wpT_take (i := 4) (v := ?_) (by as_aux_lemma => rw [HO1.out]; simp only [List.getElem?_toArray, List.getElem?_cons_succ, List.getElem?_cons_zero]; rfl) (Or.inl ⟨(by rfl), ?_⟩) ?_
            rotate_left
            · as_aux_lemma => intro wx hSx; (try dsimp only at hSx); go_simp; try with_reducible rfl
            try simp only [Act.put, List.setIfInBounds_toArray, List.set_cons_zero, List.set_cons_succ]
            refine wpT_take (i := 5) (v := ?_) (by as_aux_lemma => rw [HO1.out]; simp only [List.getElem?_toArray, List.getElem?_cons_succ, List.getElem?_cons_zero]; rfl) (Or.inl ⟨(by rfl), ?_⟩) ?_
            rotate_left
            · as_aux_lemma => intro wx hSx; (try dsimp only at hSx); go_simp; try with_reducible rfl
            try simp only [Act.put, List.setIfInBounds_toArray, List.set_cons_zero, List.set_cons_succ]
            refine wpT_take (i := 6) (v := ?_) (by as_aux_lemma => rw [HO1.out]; simp only [List.getElem?_toArray, List.getElem?_cons_succ, List.getElem?_cons_zero]; rfl) (Or.inl ⟨(by rfl), ?_⟩) ?_
            rotate_left
            · as_aux_lemma => intro wx hSx; (try dsimp only at hSx); go_simp; try with_reducible rfl
            try simp only [Act.put, List.setIfInBounds_toArray, List.set_cons_zero, List.set_cons_succ]
            refine wpT_take (i := 7) (v := ?_) (by as_aux_lemma => rw [HO1.out]; simp only [List.getElem?_toArray, List.getElem?_cons_succ, List.getElem?_cons_zero]; rfl) (Or.inl ⟨(by rfl), ?_⟩) ?_
            rotate_left
            · as_aux_lemma => intro wx hSx; (try dsimp only at hSx); go_simp; try with_reducible rfl
            try simp only [Act.put, List.setIfInBounds_toArray, List.set_cons_zero, List.set_cons_succ]
            refine wpT_take (i := 8) (v := ?_) (by as_aux_lemma => rw [HO1.out]; simp only [List.getElem?_toArray, List.getElem?_cons_succ, List.getElem?_cons_zero]; rfl) (Or.inl ⟨(by rfl), ?_⟩) ?_
            rotate_left
            · as_aux_lemma => intro wx hSx; (try dsimp only at hSx); go_simp; try with_reducible rfl
            try simp only [Act.put, List.setIfInBounds_toArray, List.set_cons_zero, List.set_cons_succ]
            refine wpT_take (i := 9) (v := ?_) (by as_aux_lemma => rw [HO1.out]; simp only [List.getElem?_toArray, List.getElem?_cons_succ, List.getElem?_cons_zero]; rfl) (Or.inl ⟨(by rfl), ?_⟩) ?_
            rotate_left
            · as_aux_lemma => intro wx hSx; (try dsimp only at hSx); go_simp; try with_reducible rfl
            try simp only [Act.put, List.setIfInBounds_toArray, List.set_cons_zero, List.set_cons_succ]
            refine wpT_take (i := 10) (v := ?_) (by as_aux_lemma => rw [HO1.out]; simp only [List.getElem?_toArray, List.getElem?_cons_succ, List.getElem?_cons_zero]; rfl) (Or.inl ⟨(by rfl), ?_⟩) ?_
            rotate_left
            · as_aux_lemma => intro wx hSx; (try dsimp only at hSx); go_simp; try with_reducible rfl
            try simp only [Act.put, List.setIfInBounds_toArray, List.set_cons_zero, List.set_cons_succ]
            refine wpT_call (i := 11) (by as_aux_lemma => rw [HO1.out]; simp only [List.getElem?_toArray, List.getElem?_cons_succ, List.getElem?_cons_zero]; rfl) (by rfl) (fun K' hK => ?_)
            go_simp
            refine (HF.out _).mono ?_
            rintro e w6 ⟨v6, rfl, hQ6, U6⟩
            obtain ⟨s6, A6, n6, c6, B6, m6, d6, rfl⟩ := hQ6.shape
            have HQ6 := Lib.hid hQ6
            have V6 : Up wr w6 := Up.trans (Up.refl wr).drew U6
            have kk6 := HE.out _ V6
            clear hQ6
            go_wp2_with fail
            refine hK.out _ _ kk6 (fun _ => ?_)
            clear hK K'
            try simp only [Act.put, List.setIfInBounds_toArray, List.set_cons_zero, List.set_cons_succ]
            refine wpT_call (i := 12) (by as_aux_lemma => rw [HO1.out]; simp only [List.getElem?_toArray, List.getElem?_cons_succ, List.getElem?_cons_zero]; rfl) (by rfl) (fun K' hK => ?_)
            go_simp
            refine (HM.out _ _ V6 HQ6.out).mono ?_
            rintro e w7 ⟨v7, rfl, hQ7, U7⟩
            obtain ⟨s7, A7, n7, c7, B7, m7, d7, rfl⟩ := hQ7.shape
            have HQ7 := Lib.hid hQ7
            have V7 : Up wr w7 := Up.trans V6 U7
            have kk7 := HE.out _ V7
            clear hQ7
            go_wp2_with fail
            refine hK.out _ _ kk7 (fun _ => ?_)
            clear hK K'
            try simp only [Act.put, List.setIfInBounds_toArray, List.set_cons_zero, List.set_cons_succ]
            refine wpT_call (i := 13) (by as_aux_lemma => rw [HO1.out]; simp only [List.getElem?_toArray, List.getElem?_cons_succ, List.getElem?_cons_zero]; rfl) (by rfl) (fun K' hK => ?_)
            go_simp
            refine (HA.out _ _ V7 HQ7.out).mono ?_
            rintro e w8 ⟨v8, rfl, hQ8, U8⟩
            obtain ⟨s8, A8, n8, c8, B8, m8, d8, rfl⟩ := hQ8.shape
            have HQ8 := Lib.hid hQ8
            have V8 : Up wr w8 := Up.trans V7 U8
            have kk8 := HE.out _ V8
            clear hQ8
            obtain ⟨⟨k0, k1, k2⟩, _⟩ := kk8
            have kk8 := HE.out _ V8
            have f0 := (HO.out.up V8).frozen (j * 3)
            have f1 := (HO.out.up V8).frozen (j * 3 + 1)
            have f2 := (HO.out.up V8).frozen (j * 3 + 2)
            go_wp2_with fail
            refine hK.out _ _ kk8 (fun _ => ?_)
            clear hK K'
            try simp only [Act.put, List.setIfInBounds_toArray, List.set_cons_zero, List.set_cons_succ]
            refine wpT_take (i := 14) (v := ?_) (by as_aux_lemma => rw [HO1.out]; simp only [List.getElem?_toArray, List.getElem?_cons_succ, List.getElem?_cons_zero]; rfl) (Or.inl ⟨(by rfl), ?_⟩) ?_
            rotate_left
            · as_aux_lemma => intro wx hSx; (try dsimp only at hSx); go_simp; try with_reducible rfl
            try simp only [Act.put, List.setIfInBounds_toArray, List.set_cons_zero, List.set_cons_succ]
            refine wpT_tail (i := 15) (by as_aux_lemma => rw [HO1.out]; simp only [List.getElem?_toArray, List.getElem?_cons_succ, List.getElem?_cons_zero]; rfl) (by rfl) (fun K' hK => ?_)
            go_simp
            go_wp2_with fail
            refine hK.out _ _ ?_
            clear hK K'
            try simp only [Act.put, List.setIfInBounds_toArray, List.set_cons_zero, List.set_cons_succ]
            refine wpT_end (NoPanic.normal ?_)
            clear HO1 O1
            have HO9 := (HO.out.up V8).put (o := none) HJL.out (q := z) HQ8.out
            rw [HST.out] at HO9
            have hy9 := Blk.put3 (by_.up V8) hgy2 (j * 3) (.bool s8) (.slice A8 n8 c8) (.slice B8 m8 d8)
            have hx9 := XV.kp ((HI.out.2.2).up V8) ((HO.out.up V8).kp_put (j * 3) (.bool s8) (.slice A8 n8 c8) (.slice B8 m8 d8))
            have HI9 := Lib.hid (And.intro HO9 (And.intro hy9 hx9))
            have U9 := up_put (hU.trans V8) hg (j * 3) (.bool s8) (.slice A8 n8 c8) (.slice B8 m8 d8)
            clear HO9 hy9 hx9 ki6
            go_wp2_with fail
            rw [put3_eq]
            go_roundw
            case rel => exact ⟨j + 1, by omega, by go_num, HI9, U9⟩
            case measure => simp [intOf]; omega
          · have t2 : decide ((j : Int) < (k : Int) + 1) = false := by simp; omega
            have t3 : decide (j < k + 1) = false := by simp; omega
            obtain rfl : j = k + 1 := by omega
            rw [shL_next] at HO
            clear ho by_ hx HI
            go_wp2_with fail
            go_roundw
            case rel => exact ⟨k + 1, by omega, by go_num, HO, hU⟩
            case measure => simp [intOf]; omega
      · have t1 : decide ((k : Int) < (N : Int)) = false := by simp; omega
        obtain rfl : k = N := by omega
        have hr9 := HO.out.rx
        have HCN := bCanonical_q (B := 64 * (B + 1 + 388) + 3) (cap := k) hr9 (HQL.out k 0 (by omega)) (by omega) (by rw [shL_len, ← HL.out]; omega)
        rw [shL_len, ← HL.out] at HCN
        have HCN := Lib.hid HCN
        have HE := Lib.hid (show shL ps M k 0 = psh ps M by rw [HL.out]; exact shL_end ps M)
        clear hr9 HO
        go_wp2_with fail
        refine HCN.out.mono ?_
        rw [HE.out]
        rintro e w10 ⟨g10, rfl, h1, h2, h3⟩
        have H9 := Lib.hid h2.rx
        have HLC := Lib.hid (cutL_len (psh ps M))
        have HLP := Lib.hid (psh_len ps M)
        clear h2
        go_wp2_with fail
        go_ret2
        exact ⟨_, _, by rw [HP.out.1, HP.out.2]; rfl, by rw [HP.out.1]; exact Nat.le_refl _, by have := HLC.out; have := HLP.out; have := HL.out; omega, by rw [HP.out.1]; exact H9.out, hU.trans h3⟩
  · have HP := Lib.hid (sh_no hyes)
    by_cases h1 : 33 < ps.length
    · have t0 : decide (33 < ps.length) = true := by simpa using h1
      have t0i : decide ((33 : Int) < (ps.length : Int)) = true := by simp; omega
      clear hyes h hB
      go_enter Try.func24, Try.ntmps24
      go_wp2_with fail
      go_ret2
      exact ⟨none, 0, by rw [HP.out.1, HP.out.2]; rfl, by rw [HP.out.1]; exact Nat.le_refl _, by omega, by rw [HP.out.1]; exact RX.nil_, Up.refl _⟩
    by_cases h2 : c < -1048576
    · have t0 : decide (33 < ps.length) = false := by simpa using h1
      have t0i : decide ((33 : Int) < (ps.length : Int)) = false := by simp; omega
      have t1 : decide (c < -1048576) = true := by simpa using h2
      clear hyes h hB
      go_enter Try.func24, Try.ntmps24
      go_wp2_with fail
      go_ret2
      exact ⟨none, 0, by rw [HP.out.1, HP.out.2]; rfl, by rw [HP.out.1]; exact Nat.le_refl _, by omega, by rw [HP.out.1]; exact RX.nil_, Up.refl _⟩
    have h3 : 1048576 < c := by omega
    have t0 : decide (33 < ps.length) = false := by simpa using h1
    have t0i : decide ((33 : Int) < (ps.length : Int)) = false := by simp; omega
    have t1 : decide (c < -1048576) = false := by simpa using h2
    have t2 : decide (1048576 < c) = true := by simpa using h3
    clear hyes h hB
    go_enter Try.func24, Try.ntmps24
    go_wp2_with fail
    go_ret2
    exact ⟨none, 0, by rw [HP.out.1, HP.out.2]; rfl, by rw [HP.out.1]; exact Nat.le_refl _, by omega, by rw [HP.out.1]; exact RX.nil_, Up.refl _⟩
end Go.Proofs.Ytiiebgfjdkkdeaa
