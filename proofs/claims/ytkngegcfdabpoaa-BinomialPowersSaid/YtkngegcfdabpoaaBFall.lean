/-
  binomial.falling and Choose: binomial coefficients.
-/
import Derived.Test.YtkngegcfdabpoaaPD
import Derived.Test.YtkngegcfdabpoaaPF
import Derived.Test.YtkngegcfdabpoaaBinom
namespace Go.Proofs.Ytkngegcfdabpoaa
open Go.RowKit

/-- A box with a canonical number. -/
def BoxQ (w : World) (g : Nat) (q : Rat) : Prop := ∃ s A n c A' n' c', Blk w g 31 #[.bool s, .slice A n c, .slice A' n' c'] ∧ QV w (.agg #[.bool s, .slice A n c, .slice A' n' c']) q
theorem BoxQ.up {w w' : World} {g : Nat} {q : Rat} (h : BoxQ w g q) (hu : Up w w') : BoxQ w' g q := by
  obtain ⟨s, A, n, c, A', n', c', h1, h2⟩ := h
  exact ⟨s, A, n, c, A', n', c', h1.up hu, h2.up hu⟩
theorem BoxQ.lt {w : World} {g : Nat} {q : Rat} (h : BoxQ w g q) : g < w.heap.size := by
  obtain ⟨s, A, n, c, A', n', c', h1, h2⟩ := h
  exact h1.lt
theorem BoxQ.of {w : World} {g : Nat} {s : Bool} {A A' : Option Addr} {n c n' c' : Nat} {t : TypeId} {q : Rat} (h : Blk w g 31 #[.bool s, .slice A n c, .slice A' n' c']) {s' : Bool} {C C' : Option Addr} {m d m' d' : Nat}
    (hq : QV w (.agg #[.bool s', .slice C m d, .slice C' m' d']) q) : BoxQ (((w.setCell ⟨g, 0, none⟩ (.bool s')).setCell ⟨g, 1, none⟩ (.slice C m d)).setCell ⟨g, 2, none⟩ (.slice C' m' d')) g q :=
  ⟨_, _, _, _, _, _, _, tri_set h _ _ _, QV.kp hq (Kp.tri (Kp.refl w) h)⟩
theorem qs_bc (n : Int) (h1 : -4611686018427387904 ≤ n) (h2 : n ≤ 9223372036854775807) : ∀ k, k ≤ 64 → qs (bc (n : Rat) k) ≤ 6 * k + 3 := by
  intro k
  induction k with
  | zero => intro _; rw [bc_zero]; exact qs_int 1 (by omega) (by omega)
  | succ k ih =>
    intro hk
    have e : bc (n : Rat) (k + 1) = bc (n : Rat) k * (((n - (k : Int) : Int) : Rat) / (((k : Int) + 1 : Int) : Rat)) := by
      rw [bc_succ, Rat.div_def, Rat.div_def]
      rw [Rat.intCast_sub, Rat.intCast_add, Rat.intCast_natCast]
      rw [Rat.mul_assoc]
      rfl
    rw [e]
    have a1 := qs_mul (bc (n : Rat) k) (((n - (k : Int) : Int) : Rat) / (((k : Int) + 1 : Int) : Rat))
    have a2 := qs_div (((n - (k : Int) : Int) : Rat)) ((((k : Int) + 1 : Int) : Rat))
    have a3 := qs_int (n - (k : Int)) (by omega) (by omega)
    have a4 := qs_int ((k : Int) + 1) (by omega) (by omega)
    have := ih (by omega)
    omega
theorem bc_small (n : Int) (k : Nat) : bc (n : Rat) k * (((n - (k : Int) : Int) : Rat) / (((k : Int) + 1 : Int) : Rat)) = bc (n : Rat) (k + 1) := by
  rw [bc_succ, Rat.div_def, Rat.div_def]
  rw [Rat.intCast_sub, Rat.intCast_add, Rat.intCast_natCast]
  rw [Rat.mul_assoc]
  rfl

set_option maxRecDepth 100000 in
set_option maxHeartbeats 1600000 in
theorem falling_q (n : Int) (k : Nat) (hn1 : -4611686018427387904 ≤ n) (hn2 : n ≤ 9223372036854775807) (hk : k ≤ 64) {w : World} :
    Calls Try.prog 38 #[.int .i64 n, .int .i64 (k : Int)] w (RetQ w (bc (n : Rat) k)) := by
  go_enter Try.func38, Try.ntmps38
  go_wp2_with fail
  obtain ⟨w1, hw1⟩ : ∃ w1, w1 = w.alloc (Obj.cells #[.bool false, .slice none 0 0, .slice none 0 0] 31) := ⟨_, rfl⟩
  have U1 : Up w w1 := by rw [hw1]; exact (Below.refl _ _).alloc (Nat.le_refl _) _
  have r1 : Blk w1 w.heap.size 31 #[.bool false, .slice none 0 0, .slice none 0 0] := by rw [hw1]; exact Blk.new' _ _ _ rfl
  rw [← hw1]
  clear hw1
  refine (fromInt_q 1 (by omega) (by omega)).mono ?_
  rintro e w2 ⟨v2, rfl, hQ2, U2⟩
  obtain ⟨s2, A2, n2, c2, B2, m2, d2, rfl⟩ := hQ2.shape
  have r2 := r1.up U2
  have V2 := U1.trans U2
  have HQ2 := Lib.hid hQ2
  clear hQ2 r1 U1 U2
  go_wp2_with fail
  obtain ⟨w3, hw3⟩ : ∃ w3, w3 = w2.alloc (Obj.cells #[.bool s2, .slice A2 n2 c2, .slice B2 m2 d2] 31) := ⟨_, rfl⟩
  have U3 : Up w2 w3 := by rw [hw3]; exact (Below.refl _ _).alloc (Nat.le_refl _) _
  have x3 : Blk w3 w2.heap.size 31 #[.bool s2, .slice A2 n2 c2, .slice B2 m2 d2] := by rw [hw3]; exact Blk.new' _ _ _ rfl
  rw [← hw3]
  clear hw3
  obtain ⟨g5, hg5⟩ : ∃ g, g = w2.heap.size := ⟨_, rfl⟩
  have hlt5 : w.heap.size < g5 := by have := r2.lt; omega
  rw [← hg5] at x3 ⊢
  have HB3 := Lib.hid (show BoxQ w3 g5 (bc (n : Rat) 0) from ⟨_, _, _, _, _, _, _, x3, by rw [bc_zero]; exact HQ2.out.up U3⟩)
  have HZ3 := Lib.hid (r2.up U3)
  have V3 := V2.trans U3
  clear x3 hg5 r2 U3 V2 HQ2
  go_loopw [9] (fun iv wr => ∃ j : Nat, j ≤ k ∧ iv = .int .i64 j ∧ Hid (BoxQ wr g5 (bc (n : Rat) j) ∧ Blk wr w.heap.size 31 #[.bool false, .slice none 0 0, .slice none 0 0]) ∧ Up w wr) (fun iv _ => k - (intOf iv).toNat)
  case atStart => exact ⟨0, Nat.zero_le _, rfl, Lib.hid ⟨HB3.out, HZ3.out⟩, V3⟩
  case round =>
    obtain ⟨j, hjk, rfl, HB, hU⟩ := hrel
    have hus := hU.size
    by_cases hlt : j < k
    · by_cases hnj : n = (j : Int)
      · have HV := Lib.hid (show bc (n : Rat) k = ((0 : Int) : Rat) by rw [hnj, Rat.intCast_natCast, bc_nat_zero j k hlt]; rfl)
        have bz := HB.out.2
        obtain ⟨o0, o1, o2⟩ := tri bz
        subst hnj
        go_wp2_with fail
        refine (fromInt_q 0 (by omega) (by omega)).mono ?_
        rintro e w5 ⟨v5, rfl, hQ5, U5⟩
        obtain ⟨s5, A5, n5, c5, B5, m5, d5, rfl⟩ := hQ5.shape
        rw [← HV.out] at hQ5
        have HQ5 := Lib.hid hQ5
        have z5 := bz.up U5
        clear hQ5 o0 o1 o2
        obtain ⟨o0, o1, o2⟩ := tri z5
        have f0 := z5.frozen 0
        have f1 := z5.frozen 1
        have f2 := z5.frozen 2
        go_wp2_with fail
        obtain ⟨k0, k1, k2⟩ := tri (tri_set z5 (.bool s5) (.slice A5 n5 c5) (.slice B5 m5 d5))
        refine bodyPost_ret (v := .agg #[.bool s5, .slice A5 n5 c5, .slice B5 m5 d5]) ?_ rfl (ret_q z5 HQ5.out (hU.trans U5) (Nat.le_refl _))
        simp [results, Try.results38, go_sem, k0, k1, k2]
      · obtain ⟨bx0, bz⟩ := HB.out
        obtain ⟨sb, Ab, nb, cb, Bb, mb, db, bx, hqb⟩ := bx0
        have HSm := Lib.hid (fun (wx : World) => small_q (w := wx) (n - (j : Int)) ((j : Int) + 1) (by omega) (by omega) (by omega) (by omega))
        have HMu := Lib.hid (fun wx vx (u : Up wr wx) (h : QV wx vx (((n - (j : Int) : Int) : Rat) / (((j : Int) + 1 : Int) : Rat))) => mul_q ((hqb.up u).iv (B := 387) (Nat.le_trans (qs_bc n hn1 hn2 j (by omega)) (by omega))) (h.iv (B := 6) (Nat.le_trans (qs_div _ _) (by have := qs_int (n - (j : Int)) (by omega) (by omega); have := qs_int ((j : Int) + 1) (by omega) (by omega); omega))) (by omega))
        rw [bc_small] at HMu
        have ht : (n == (j : Int)) = false := by simpa using hnj
        have e1 : IntKind.i64.wrap (n - (j : Int)) = n - (j : Int) := IntWalk.i64_in _ (by omega)
        have e2 : IntKind.i64.wrap ((j : Int) + 1) = (j : Int) + 1 := IntWalk.i64_in _ (by omega)
        obtain ⟨x0, x1, x2⟩ := tri bx
        go_wp2_with fail
        refine wp_region_noPanic ?_
        refine wp_region_till (S := (fun wx => (wx.cell? ⟨g5, 0, none⟩ = some (.bool sb) ∧ wx.cell? ⟨g5, 1, none⟩ = some (.slice Ab nb cb) ∧ wx.cell? ⟨g5, 2, none⟩ = some (.slice Bb mb db)))) 8 [(0, 0), (1, 0), (2, 0), (3, 0), (4, 0), (5, 0), (6, 1), (7, 1)] [8] (by kernel_rfl) (by as_aux_lemma => kernel_rfl) (by as_aux_lemma => kernel_rfl) (by as_aux_lemma => kernel_rfl) (fun _ _ _ _ _ h => h) (tri (Blk.drew bx)) ?_
        intro O1 HO1
        refine wpT_take (i := 0) (v := ?_) (by as_aux_lemma => rw [HO1.out]; simp only [List.getElem?_toArray, List.getElem?_cons_zero]; rfl) (Or.inl ⟨(by rfl), ?_⟩) ?_
        rotate_left
        · as_aux_lemma => intro wx hSx; (try dsimp only at hSx); go_simp; try with_reducible rfl
        try simp only [Act.put, List.setIfInBounds_toArray, List.set_cons_zero, List.set_cons_succ]
        refine wpT_take (i := 1) (v := ?_) (by as_aux_lemma => rw [HO1.out]; simp only [List.getElem?_toArray, List.getElem?_cons_succ, List.getElem?_cons_zero]; rfl) (Or.inl ⟨(by rfl), ?_⟩) ?_
        rotate_left
        · as_aux_lemma => intro wx hSx; (try dsimp only at hSx); go_simp; try with_reducible rfl
        try simp only [Act.put, List.setIfInBounds_toArray, List.set_cons_zero, List.set_cons_succ]
        refine wpT_take (i := 2) (v := ?_) (by as_aux_lemma => rw [HO1.out]; simp only [List.getElem?_toArray, List.getElem?_cons_succ, List.getElem?_cons_zero]; rfl) (Or.inl ⟨(by rfl), ?_⟩) ?_
        rotate_left
        · as_aux_lemma => intro wx hSx; (try dsimp only at hSx); go_simp; try with_reducible rfl
        try simp only [Act.put, List.setIfInBounds_toArray, List.set_cons_zero, List.set_cons_succ]
        refine wpT_take (i := 3) (v := ?_) (by as_aux_lemma => rw [HO1.out]; simp only [List.getElem?_toArray, List.getElem?_cons_succ, List.getElem?_cons_zero]; rfl) (Or.inl ⟨(by rfl), ?_⟩) ?_
        rotate_left
        · as_aux_lemma => intro wx hSx; (try dsimp only at hSx); go_simp; try with_reducible rfl
        try simp only [Act.put, List.setIfInBounds_toArray, List.set_cons_zero, List.set_cons_succ]
        refine wpT_take (i := 4) (v := ?_) (by as_aux_lemma => rw [HO1.out]; simp only [List.getElem?_toArray, List.getElem?_cons_succ, List.getElem?_cons_zero]; rfl) (Or.inl ⟨(by rfl), ?_⟩) ?_
        rotate_left
        · as_aux_lemma => intro wx hSx; (try dsimp only at hSx); go_simp; try with_reducible rfl
        try simp only [Act.put, List.setIfInBounds_toArray, List.set_cons_zero, List.set_cons_succ]
        refine wpT_take (i := 5) (v := ?_) (by as_aux_lemma => rw [HO1.out]; simp only [List.getElem?_toArray, List.getElem?_cons_succ, List.getElem?_cons_zero]; rfl) (Or.inl ⟨(by rfl), ?_⟩) ?_
        rotate_left
        · as_aux_lemma => intro wx hSx; (try dsimp only at hSx); go_simp; try with_reducible rfl
        try simp only [Act.put, List.setIfInBounds_toArray, List.set_cons_zero, List.set_cons_succ]
        refine wpT_call (i := 6) (by as_aux_lemma => rw [HO1.out]; simp only [List.getElem?_toArray, List.getElem?_cons_succ, List.getElem?_cons_zero]; rfl) (by rfl) (fun K' hK => ?_)
        go_simp
        try simp only [e1, e2]
        refine (HSm.out _).mono ?_
        rintro e w6 ⟨v6, rfl, hQ6, U6⟩
        obtain ⟨s6, A6, n6, c6, B6, m6, d6, rfl⟩ := hQ6.shape
        have HQ6 := Lib.hid hQ6
        have V6 : Up wr w6 := Up.trans (Up.refl wr).drew U6
        have x6 := bx.up V6
        have s6' := tri x6
        clear hQ6
        go_wp2_with fail
        refine hK.out _ _ s6' (fun _ => ?_)
        clear hK K'
        try simp only [Act.put, List.setIfInBounds_toArray, List.set_cons_zero, List.set_cons_succ]
        refine wpT_call (i := 7) (by as_aux_lemma => rw [HO1.out]; simp only [List.getElem?_toArray, List.getElem?_cons_succ, List.getElem?_cons_zero]; rfl) (by rfl) (fun K' hK => ?_)
        go_simp
        refine (HMu.out _ _ V6 HQ6.out).mono ?_
        rintro e w7 ⟨v7, rfl, hQ7, U7⟩
        obtain ⟨s7, A7, n7, c7, B7, m7, d7, rfl⟩ := hQ7.shape
        have HQ7 := Lib.hid hQ7
        have V7 := V6.trans U7
        have x7 := bx.up V7
        have z7 := bz.up V7
        have s7' := tri x7
        obtain ⟨k0, k1, k2⟩ := s7'
        have s7' := tri x7
        have f0 := x7.frozen 0
        have f1 := x7.frozen 1
        have f2 := x7.frozen 2
        clear hQ7
        go_wp2_with fail
        refine hK.out _ _ s7' (fun _ => ?_)
        clear hK K'
        try simp only [Act.put, List.setIfInBounds_toArray, List.set_cons_zero, List.set_cons_succ]
        refine wpT_tail (i := 8) (by as_aux_lemma => rw [HO1.out]; simp only [List.getElem?_toArray, List.getElem?_cons_succ, List.getElem?_cons_zero]; rfl) (by rfl) (fun K' hK => ?_)
        go_simp
        go_wp2_with fail
        refine hK.out _ _ ?_
        clear hK K'
        try simp only [Act.put, List.setIfInBounds_toArray, List.set_cons_zero, List.set_cons_succ]
        refine wpT_end (NoPanic.normal ?_)
        clear HO1 O1
        have HB8 := Lib.hid (BoxQ.of (t := 0) x7 HQ7.out)
        have hz8 := ((z7.far (p := ⟨g5, 0, none⟩) (by simp; omega) (.bool s7)).far (p := ⟨g5, 1, none⟩) (by simp; omega) (.slice A7 n7 c7)).far (p := ⟨g5, 2, none⟩) (by simp; omega) (.slice B7 m7 d7)
        have U8 := up_tri (g := g5) (hU.trans V7) (by omega) (.bool s7) (.slice A7 n7 c7) (.slice B7 m7 d7)
        go_wp2_with fail
        go_roundw
        case rel => exact ⟨j + 1, by omega, by go_num, Lib.hid ⟨HB8.out, hz8⟩, U8⟩
        case measure => simp [intOf]; omega
    · have hjk' : j = k := by omega
      subst hjk'
      obtain ⟨bx0, bz⟩ := HB.out
      obtain ⟨sb, Ab, nb, cb, Bb, mb, db, bx, hqb⟩ := bx0
      have HQ := Lib.hid hqb
      obtain ⟨x0, x1, x2⟩ := tri bx
      obtain ⟨o0, o1, o2⟩ := tri bz
      have f0 := bz.frozen 0
      have f1 := bz.frozen 1
      have f2 := bz.frozen 2
      clear hqb
      go_wp2_with fail
      obtain ⟨k0, k1, k2⟩ := tri (tri_set bz (.bool sb) (.slice Ab nb cb) (.slice Bb mb db))
      refine bodyPost_ret (v := .agg #[.bool sb, .slice Ab nb cb, .slice Bb mb db]) ?_ rfl (ret_q bz HQ.out hU (Nat.le_refl _))
      simp [results, Try.results38, go_sem, k0, k1, k2]
end Go.Proofs.Ytkngegcfdabpoaa
