/-
  binomial.Eval.
-/
import Derived.Test.YtkngegcfdabpoaaLAt
import Derived.Test.YtkngegcfdabpoaaPD
namespace Go.Proofs.Ytkngegcfdabpoaa
open Go.RowKit

theorem RetQB.alloc {w w' : World} {q : Rat} {b : Bool} {e : Ending} (h : RetQB w q b e w') (o : Obj) : RetQB w q b e (w'.alloc o) := by
  obtain ⟨v, rfl, h1, h2⟩ := h
  have U : Up w' (w'.alloc o) := Below.alloc (Up.refl _) (Nat.le_refl _) _
  exact ⟨v, rfl, h1.up U, h2.trans U⟩
/-- What Eval answers. -/
def evalV (ps : List Rat) (n : Int) : Rat := if ps.length ≤ 33 then pat ps ((max 0 n : Int) : Rat) else 0
def evalB (ps : List Rat) : Bool := decide (ps.length ≤ 33)
theorem eval_yes {ps : List Rat} {n : Int} (h : ps.length ≤ 33) : evalV ps n = pat ps ((max 0 n : Int) : Rat) ∧ evalB ps = true := by
  unfold evalV evalB; rw [if_pos h]; exact ⟨rfl, by simpa using h⟩
theorem eval_no {ps : List Rat} {n : Int} (h : ¬ ps.length ≤ 33) : evalV ps n = ((0 : Int) : Rat) ∧ evalB ps = false := by
  unfold evalV evalB; rw [if_neg h]; exact ⟨rfl, by simpa using h⟩
theorem qs_evalV (ps : List Rat) (B : Nat) (h : ∀ q ∈ ps, qs q ≤ B) (hB : 3 ≤ B) (n : Int) (h2 : n ≤ 9223372036854775807) : qs (evalV ps n) ≤ 64 * (B + 388) + 3 := by
  unfold evalV
  split
  · exact qs_pat ps B h hB (max 0 n) (by omega) (by omega) (by omega)
  · have := qs_zero; omega

set_option maxRecDepth 100000 in
set_option maxHeartbeats 3200000 in
theorem eval_q {o : Option Nat} {A : Option Addr} {cap : Nat} {ps : List Rat} {B : Nat} {w : World} (h : RX o w A ps) (hB : ∀ q ∈ ps, XB o q B) (hB2 : 2 ≤ B) (hB' : B ≤ 90000) (hl : ps.length ≤ 1000) (n : Int) (hn1 : -9223372036854775808 ≤ n) (hn2 : n ≤ 9223372036854775807) :
    Calls Try.prog 15 #[.slice A ps.length cap, .int .i64 n] w (RetQB w (evalV ps n) (evalB ps)) := by
  by_cases h33 : ps.length ≤ 33
  · have HV := Lib.hid (eval_yes (n := n) h33)
    obtain ⟨M, hM⟩ : ∃ M : Rat, M = ((max 0 n : Int) : Rat) := ⟨_, rfl⟩
    have HQS := Lib.hid (fun k (hk : k ≤ 64) => qs_patK' ps M (B + 1) 3 (h.qs hB) (by omega) (by omega) (by rw [hM]; exact qs_int _ (by omega) (by omega)) (by omega) k hk)
    have HMB := Lib.hid (fun k (hk : k ≤ 64) => show qs (bc M k) ≤ 387 from by rw [hM]; exact Nat.le_trans (qs_bc (max 0 n) (by omega) (by omega) k hk) (by omega))
    have HFA := Lib.hid (fun k (hk : k ≤ 64) (wx : World) => falling_q (w := wx) (max 0 n) k (by omega) (by omega) hk)
    rw [← hM] at HFA HV
    have HR := Lib.hid (h.iv hB)
    obtain ⟨N, hN⟩ : ∃ L, L = ps.length := ⟨_, rfl⟩
    have HL := Lib.hid hN
    rw [← hN] at hl h33 ⊢
    have t33 : decide (33 < N) = false := by simp; omega
    have t34 : decide ((33 : Int) < (N : Int)) = false := by simp; omega
    clear h hB hN hM
    by_cases hn : n ≤ 0
    case' pos =>
      have hm : max 0 n = 0 := by omega
      have hc : decide (0 < n) = false := by simpa using hn
      rw [hm] at HFA
    case' neg =>
      have hm : max 0 n = n := by omega
      have hc : decide (0 < n) = true := by simpa using hn
      rw [hm] at HFA
    all_goals
      clear hm
      go_enter Try.func15, Try.ntmps15
      go_wp2_with fail
      obtain ⟨w1, hw1⟩ : ∃ w1, w1 = w.alloc (Obj.cells #[.bool false, .slice none 0 0, .slice none 0 0] 31) := ⟨_, rfl⟩
      have Uw1 : Up w w1 := by rw [hw1]; exact (Below.refl _ _).alloc (Nat.le_refl _) _
      have rw1 : Blk w1 w.heap.size 31 #[.bool false, .slice none 0 0, .slice none 0 0] := by rw [hw1]; exact Blk.new' _ _ _ rfl
      rw [← hw1]
      clear hw1
      refine (fromInt_q 0 (by omega) (by omega)).mono ?_
      rintro e w2 ⟨v2, rfl, hQ2, U2⟩
      obtain ⟨s2, A2, n2, c2, B2, m2, d2, rfl⟩ := hQ2.shape
      have r2 := rw1.up U2
      have V2 := Uw1.trans U2
      have HQ2 := Lib.hid hQ2
      clear hQ2 rw1 Uw1 U2
      go_wp2_with fail
      obtain ⟨w3, hw3⟩ : ∃ w3, w3 = w2.alloc (Obj.cells #[.bool s2, .slice A2 n2 c2, .slice B2 m2 d2] 31) := ⟨_, rfl⟩
      have U3 : Up w2 w3 := by rw [hw3]; exact (Below.refl _ _).alloc (Nat.le_refl _) _
      have x3 : Blk w3 w2.heap.size 31 #[.bool s2, .slice A2 n2 c2, .slice B2 m2 d2] := by rw [hw3]; exact Blk.new' _ _ _ rfl
      rw [← hw3]
      clear hw3
      obtain ⟨gf, hgf⟩ : ∃ g, g = w2.heap.size := ⟨_, rfl⟩
      have hlt : w.heap.size < gf := by have := r2.lt; omega
      rw [← hgf] at x3 ⊢
      have HB3 := Lib.hid (show BoxQ w3 gf (patK ps M 0) from ⟨_, _, _, _, _, _, _, x3, by first | exact HQ2.out.up U3 | (have := HQ2.out.up U3; simpa using this)⟩)
      have HZ3 := Lib.hid (r2.up U3)
      have V3 := V2.trans U3
      clear x3 hgf r2 U3 V2 HQ2
      go_wp2_with fail
      go_loopw [16] (fun iv wr => ∃ j : Nat, j ≤ N ∧ iv = .int .i64 j ∧ Hid (BoxQ wr gf (patK ps M j) ∧ Blk wr w.heap.size 31 #[.bool false, .slice none 0 0, .slice none 0 0]) ∧ Up w wr) (fun iv _ => N - (intOf iv).toNat)
      case atStart => exact ⟨0, Nat.zero_le _, rfl, Lib.hid ⟨HB3.out, HZ3.out⟩, V3⟩
      case round =>
        obtain ⟨k, hk, rfl, HB, hU⟩ := hrel
        have hus := hU.size
        obtain ⟨bx0, bz⟩ := HB.out
        obtain ⟨sb, Ab, nb, cb, Bb, mb, db, bx, hqb⟩ := bx0
        clear HB3 HZ3 V3
        by_cases hkN : k < N
        · have t1 : decide ((k : Int) < (N : Int)) = true := by simp; omega
          obtain ⟨b, off, s, X, a, c, Y, m, d, he, hb, hx, c0, c1, c2⟩ := (HR.out.up hU).at_ (k := k) (by have := HL.out; omega)
          subst he
          have ki1 : (0 : Int) ≤ k := by omega
          have ki2 : (k : Int) < N := by omega
          have HF := Lib.hid (fun wx => HFA.out k (by omega) wx)
          have HQB := Lib.hid (HMB.out k (by omega))
          have HQP := Lib.hid (XB.le (B := B) hx (Nat.le_refl _))
          have HM := Lib.hid (fun wx vx (u : Up wr wx) (h : QV wx vx (bc M k)) => mul_q (XV.iv (hx.up u) (B := B) (Nat.le_refl _)) (h.iv HQB.out) (by omega))
          have HA := Lib.hid (fun wx vx (u : Up wr wx) (h : QV wx vx (ps.getD k 0 * bc M k)) => add_q ((hqb.up u).iv (HQS.out k (by omega))) (h.iv (Nat.le_trans (qs_mul _ _) (Nat.add_le_add HQP.out HQB.out))) (by omega))
          rw [patK_succ] at HA
          clear hqb hx
          go_wp2_with fail
          obtain ⟨w4, hw4⟩ : ∃ w4, w4 = wr.alloc (Obj.cells #[.bool s, .slice X a c, .slice Y m d] 31) := ⟨_, rfl⟩
          have U4 : Up wr w4 := by rw [hw4]; exact (Below.refl _ _).alloc (Nat.le_refl _) _
          have by4 : Blk w4 wr.heap.size 31 #[.bool s, .slice X a c, .slice Y m d] := by rw [hw4]; exact Blk.new' _ _ _ rfl
          have bx4 := bx.up U4
          have bz4 := bz.up U4
          have lf := bx.lt
          obtain ⟨gy, hgy⟩ : ∃ g, g = wr.heap.size := ⟨_, rfl⟩
          rw [← hw4, ← hgy]
          rw [← hgy] at by4
          have ny : gf ≠ gy := by omega
          clear hw4 hgy bx bz
          have HE : Hid (∀ W : World, Up w4 W → (W.cell? ⟨gf, 0, none⟩ = some (.bool sb) ∧ W.cell? ⟨gf, 1, none⟩ = some (.slice Ab nb cb) ∧ W.cell? ⟨gf, 2, none⟩ = some (.slice Bb mb db)) ∧ (W.cell? ⟨gy, 0, none⟩ = some (.bool s) ∧ W.cell? ⟨gy, 1, none⟩ = some (.slice X a c) ∧ W.cell? ⟨gy, 2, none⟩ = some (.slice Y m d))) := Lib.hid fun W hW => And.intro (tri (bx4.up hW)) (tri (by4.up hW))
          refine wp_region_noPanic ?_
          refine wp_region_till (S := (fun wx => (wx.cell? ⟨gf, 0, none⟩ = some (.bool sb) ∧ wx.cell? ⟨gf, 1, none⟩ = some (.slice Ab nb cb) ∧ wx.cell? ⟨gf, 2, none⟩ = some (.slice Bb mb db)) ∧ (wx.cell? ⟨gy, 0, none⟩ = some (.bool s) ∧ wx.cell? ⟨gy, 1, none⟩ = some (.slice X a c) ∧ wx.cell? ⟨gy, 2, none⟩ = some (.slice Y m d)))) 8 [(0, 0), (1, 0), (2, 0), (3, 0), (4, 0), (5, 1), (6, 1), (7, 1)] [8] (by kernel_rfl) (by as_aux_lemma => kernel_rfl) (by as_aux_lemma => kernel_rfl) (by as_aux_lemma => kernel_rfl) (fun _ _ _ _ _ h => h) (HE.out _ (Up.refl w4).drew) ?_
          intro O4 HO4
          refine wpT_take (i := 0) (v := ?_) (by as_aux_lemma => rw [HO4.out]; simp only [List.getElem?_toArray, List.getElem?_cons_zero]; rfl) (Or.inl ⟨(by rfl), ?_⟩) ?_
          rotate_left
          · as_aux_lemma => intro wx hSx; (try dsimp only at hSx); go_simp; try with_reducible rfl
          try simp only [Act.put, List.setIfInBounds_toArray, List.set_cons_zero, List.set_cons_succ]
          refine wpT_take (i := 1) (v := ?_) (by as_aux_lemma => rw [HO4.out]; simp only [List.getElem?_toArray, List.getElem?_cons_succ, List.getElem?_cons_zero]; rfl) (Or.inl ⟨(by rfl), ?_⟩) ?_
          rotate_left
          · as_aux_lemma => intro wx hSx; (try dsimp only at hSx); go_simp; try with_reducible rfl
          try simp only [Act.put, List.setIfInBounds_toArray, List.set_cons_zero, List.set_cons_succ]
          refine wpT_take (i := 2) (v := ?_) (by as_aux_lemma => rw [HO4.out]; simp only [List.getElem?_toArray, List.getElem?_cons_succ, List.getElem?_cons_zero]; rfl) (Or.inl ⟨(by rfl), ?_⟩) ?_
          rotate_left
          · as_aux_lemma => intro wx hSx; (try dsimp only at hSx); go_simp; try with_reducible rfl
          try simp only [Act.put, List.setIfInBounds_toArray, List.set_cons_zero, List.set_cons_succ]
          refine wpT_take (i := 3) (v := ?_) (by as_aux_lemma => rw [HO4.out]; simp only [List.getElem?_toArray, List.getElem?_cons_succ, List.getElem?_cons_zero]; rfl) (Or.inl ⟨(by rfl), ?_⟩) ?_
          rotate_left
          · as_aux_lemma => intro wx hSx; (try dsimp only at hSx); go_simp; try with_reducible rfl
          try simp only [Act.put, List.setIfInBounds_toArray, List.set_cons_zero, List.set_cons_succ]
          refine wpT_take (i := 4) (v := ?_) (by as_aux_lemma => rw [HO4.out]; simp only [List.getElem?_toArray, List.getElem?_cons_succ, List.getElem?_cons_zero]; rfl) (Or.inl ⟨(by rfl), ?_⟩) ?_
          rotate_left
          · as_aux_lemma => intro wx hSx; (try dsimp only at hSx); go_simp; try with_reducible rfl
          try simp only [Act.put, List.setIfInBounds_toArray, List.set_cons_zero, List.set_cons_succ]
          refine wpT_call (i := 5) (by as_aux_lemma => rw [HO4.out]; simp only [List.getElem?_toArray, List.getElem?_cons_succ, List.getElem?_cons_zero]; rfl) (by rfl) (fun K' hK => ?_)
          go_simp
          try (rw [if_neg (show ¬ 0 < n by omega)])
          refine (HF.out _).mono ?_
          rintro e w6 ⟨v6, rfl, hQ6, U6⟩
          obtain ⟨s6, A6, n6, c6, B6, m6, d6, rfl⟩ := hQ6.shape
          have HQ6 := Lib.hid hQ6
          have V6 : Up w4 w6 := Up.trans (Up.refl w4).drew U6
          have kk6 := HE.out _ V6
          clear hQ6
          go_wp2_with fail
          refine hK.out _ _ kk6 (fun _ => ?_)
          clear hK K'
          try simp only [Act.put, List.setIfInBounds_toArray, List.set_cons_zero, List.set_cons_succ]
          refine wpT_call (i := 6) (by as_aux_lemma => rw [HO4.out]; simp only [List.getElem?_toArray, List.getElem?_cons_succ, List.getElem?_cons_zero]; rfl) (by rfl) (fun K' hK => ?_)
          go_simp
          refine (HM.out _ _ (U4.trans V6) HQ6.out).mono ?_
          rintro e w7 ⟨v7, rfl, hQ7, U7⟩
          obtain ⟨s7, A7, n7, c7, B7, m7, d7, rfl⟩ := hQ7.shape
          have HQ7 := Lib.hid hQ7
          have V7 : Up w4 w7 := Up.trans V6 U7
          have kk7 := HE.out _ V7
          clear hQ7
          go_wp2_with fail
          refine hK.out _ _ kk7 (fun _ => ?_)
          clear hK K'
          try simp only [Act.put, List.setIfInBounds_toArray, List.set_cons_zero, List.set_cons_succ]
          refine wpT_call (i := 7) (by as_aux_lemma => rw [HO4.out]; simp only [List.getElem?_toArray, List.getElem?_cons_succ, List.getElem?_cons_zero]; rfl) (by rfl) (fun K' hK => ?_)
          go_simp
          refine (HA.out _ _ (U4.trans V7) HQ7.out).mono ?_
          rintro e w8 ⟨v8, rfl, hQ8, U8⟩
          obtain ⟨s8, A8, n8, c8, B8, m8, d8, rfl⟩ := hQ8.shape
          have HQ8 := Lib.hid hQ8
          have V8 : Up w4 w8 := Up.trans V7 U8
          have kk8 := HE.out _ V8
          clear hQ8
          have x8 := bx4.up V8
          obtain ⟨k0, k1, k2⟩ := tri x8
          have f0 := x8.frozen 0
          have f1 := x8.frozen 1
          have f2 := x8.frozen 2
          clear x8
          go_wp2_with fail
          refine hK.out _ _ kk8 (fun _ => ?_)
          clear hK K'
          try simp only [Act.put, List.setIfInBounds_toArray, List.set_cons_zero, List.set_cons_succ]
          refine wpT_tail (i := 8) (by as_aux_lemma => rw [HO4.out]; simp only [List.getElem?_toArray, List.getElem?_cons_succ, List.getElem?_cons_zero]; rfl) (by rfl) (fun K' hK => ?_)
          go_simp
          go_wp2_with fail
          refine hK.out _ _ ?_
          clear hK K'
          try simp only [Act.put, List.setIfInBounds_toArray, List.set_cons_zero, List.set_cons_succ]
          refine wpT_end (NoPanic.normal ?_)
          clear HO4 O4
          have x9 := bx4.up V8
          have z9 := bz4.up V8
          have HB9 := Lib.hid (BoxQ.of (t := 0) x9 HQ8.out)
          have hz9 := ((z9.far (p := ⟨gf, 0, none⟩) (by simp; omega) (.bool s8)).far (p := ⟨gf, 1, none⟩) (by simp; omega) (.slice A8 n8 c8)).far (p := ⟨gf, 2, none⟩) (by simp; omega) (.slice B8 m8 d8)
          have U9 := up_tri (g := gf) (hU.trans (U4.trans V8)) (by omega) (.bool s8) (.slice A8 n8 c8) (.slice B8 m8 d8)
          go_wp2_with fail
          go_roundw
          case rel => exact ⟨k + 1, by omega, by go_num, Lib.hid ⟨HB9.out, hz9⟩, U9⟩
          case measure => simp [intOf]; omega
        · have t1 : decide ((k : Int) < (N : Int)) = false := by simp; omega
          have hkn : patK ps M k = pat ps M := by rw [show k = ps.length from by have := HL.out; omega]; rfl
          rw [hkn] at hqb
          clear hkn
          obtain ⟨x0, x1, x2⟩ := tri bx
          obtain ⟨o0, o1, o2⟩ := tri bz
          have f0 := bz.frozen 0
          have f1 := bz.frozen 1
          have f2 := bz.frozen 2
          rw [← HV.out.1] at hqb
          have HQ5 := Lib.hid hqb
          clear hqb
          go_wp2_with fail
          obtain ⟨k0, k1, k2⟩ := tri (tri_set bz (.bool sb) (.slice Ab nb cb) (.slice Bb mb db))
          refine bodyPost_ret (v := .tuple #[.agg #[.bool sb, .slice Ab nb cb, .slice Bb mb db], .bool true]) ?_ rfl (by rw [HV.out.2]; exact ret_qb bz HQ5.out hU (Nat.le_refl _))
          simp [results, Try.results15, go_sem, k0, k1, k2]
  · have HV := Lib.hid (eval_no (n := n) h33)
    have t33 : decide (33 < ps.length) = true := by simp; omega
    have t34 : decide ((33 : Int) < (ps.length : Int)) = true := by simp; omega
    clear h33 h hB
    go_enter Try.func15, Try.ntmps15
    go_wp2_with fail
    obtain ⟨w1, hw1⟩ : ∃ w1, w1 = w.alloc (Obj.cells #[.bool false, .slice none 0 0, .slice none 0 0] 31) := ⟨_, rfl⟩
    have Uw1 : Up w w1 := by rw [hw1]; exact (Below.refl _ _).alloc (Nat.le_refl _) _
    have rw1 : Blk w1 w.heap.size 31 #[.bool false, .slice none 0 0, .slice none 0 0] := by rw [hw1]; exact Blk.new' _ _ _ rfl
    rw [← hw1]
    clear hw1
    refine (fromInt_q 0 (by omega) (by omega)).mono ?_
    rintro e w2 ⟨v2, rfl, hQ2, U2⟩
    obtain ⟨s2, A2, n2, c2, B2, m2, d2, rfl⟩ := hQ2.shape
    have r2 := rw1.up U2
    have V2 := Uw1.trans U2
    rw [← HV.out.1] at hQ2
    have HQ2 := Lib.hid hQ2
    clear hQ2 rw1 Uw1 U2
    obtain ⟨o0, o1, o2⟩ := tri r2
    have f0 := r2.frozen 0
    have f1 := r2.frozen 1
    have f2 := r2.frozen 2
    have l2 := r2.lt
    have l3 : w.heap.size ≠ w2.heap.size := by omega
    go_wp2_with fail
    have s2x := tri_set r2 (.bool s2) (.slice A2 n2 c2) (.slice B2 m2 d2)
    obtain ⟨k0, k1, k2⟩ := tri (Blk.alloc s2x (Obj.cells #[.bool s2, .slice A2 n2 c2, .slice B2 m2 d2] 31))
    refine bodyPost_ret (v := .tuple #[.agg #[.bool s2, .slice A2 n2 c2, .slice B2 m2 d2], .bool false]) ?_ rfl (by rw [HV.out.2]; exact RetQB.alloc (ret_qb r2 HQ2.out V2 (Nat.le_refl _)) _)
    simp [results, Try.results15, go_sem, k0, k1, k2]
end Go.Proofs.Ytkngegcfdabpoaa
