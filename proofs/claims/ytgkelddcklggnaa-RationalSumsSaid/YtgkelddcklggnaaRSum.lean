/-
  rational.Sum on a slice of rational numbers.
-/
import Derived.Test.YtgkelddcklggnaaLKeep
import Derived.Test.YtgkelddcklggnaaPE
import Derived.Test.YtgkelddcklggnaaPF
namespace Go.Proofs.Ytgkelddcklggnaa
open Go.RowKit

/-- A box with a fraction of at most B limbs. -/
def BoxF (w : World) (g : Nat) (q : Rat) (B : Nat) : Prop := ∃ s A n c A' n' c', Blk w g 46 #[.bool s, .slice A n c, .slice A' n' c'] ∧ FQ w (.agg #[.bool s, .slice A n c, .slice A' n' c']) q B
def sumQ (rs : List Rat) (k : Nat) : Rat := (rs.take k).foldl (· + ·) 0
theorem sumQ_zero (rs : List Rat) : sumQ rs 0 = 0 := by simp [sumQ]
theorem sumQ_succ (rs : List Rat) {k : Nat} (hk : k < rs.length) : sumQ rs (k + 1) = sumQ rs k + rs.getD k 0 := by
  unfold sumQ
  rw [List.take_succ_eq_append_getElem hk, List.foldl_append]
  simp [hk]
theorem BoxF.of {w : World} {g : Nat} {s : Bool} {A A' : Option Addr} {n c n' c' : Nat} {q : Rat} {B : Nat} (h : Blk w g 46 #[.bool s, .slice A n c, .slice A' n' c']) {s' : Bool} {C C' : Option Addr} {m d m' d' : Nat}
    (hq : FQ w (.agg #[.bool s', .slice C m d, .slice C' m' d']) q B) : BoxF (((w.setCell ⟨g, 0, none⟩ (.bool s')).setCell ⟨g, 1, none⟩ (.slice C m d)).setCell ⟨g, 2, none⟩ (.slice C' m' d')) g q B :=
  ⟨_, _, _, _, _, _, _, tri_set h _ _ _, FQ.kp hq (Kp.tri (Kp.refl w) h)⟩

set_option maxRecDepth 100000 in
set_option maxHeartbeats 3200000 in
theorem sum_q (A : Option Addr) (cap : Nat) (vs : List Value) (rs : List Rat) (w : World) (hr : EL w w.heap.size A vs) (hl : vs.length ≤ 1000) (hrs : rs.length = vs.length)
    (hi : ∀ j (h : j < vs.length), IV w vs[j] (rs.getD j 0) 8) :
    Calls Try.prog 35 #[.slice A vs.length cap] w (RetQ w (sumQ rs rs.length)) := by
  have HR := Lib.hid hr
  have HI := Lib.hid hi
  have HRS := Lib.hid hrs
  obtain ⟨N, hN⟩ : ∃ L, L = vs.length := ⟨_, rfl⟩
  have HL := Lib.hid hN
  rw [hrs]
  rw [← hN] at hl ⊢
  clear hr hi hrs hN
  go_enter Try.func35, Try.ntmps35
  go_wp2_with fail
  obtain ⟨w3, hw3⟩ : ∃ w3, w3 = ((w.alloc (Obj.cells #[.bool false, .slice none 0 0, .slice none 0 0] 24)).alloc (Obj.cells #[.int .u32 1] 54)).alloc (Obj.cells #[.bool false, .slice none 0 0, .slice (some ⟨w.heap.size + 1, 0, none⟩) 1 1] 46) := ⟨_, rfl⟩
  have U3 : Up w w3 := by rw [hw3]; exact (((Below.refl _ _).alloc (Nat.le_refl _) _).alloc (by simp) _).alloc (by simp; omega) _
  have z3 : Blk w3 w.heap.size 24 #[.bool false, .slice none 0 0, .slice none 0 0] := by rw [hw3]; exact ((Blk.new w _ _).alloc _).alloc _
  have u3 : Blk w3 (w.heap.size + 1) 54 #[.int .u32 1] := by rw [hw3]; exact (Blk.new' _ _ _ (by simp)).alloc _
  have x3 : Blk w3 (w.heap.size + 1 + 1) 46 #[.bool false, .slice none 0 0, .slice (some ⟨w.heap.size + 1, 0, none⟩) 1 1] := by rw [hw3]; exact Blk.new' _ _ _ (by simp)
  rw [← hw3]
  clear hw3
  obtain ⟨gf, hgf⟩ : ∃ g, g = w.heap.size + 1 + 1 := ⟨_, rfl⟩
  rw [← hgf] at x3 ⊢
  have hlt : w.heap.size < gf := by omega
  have q0 := qs_int 0 (by omega) (by omega)
  have HB3 := Lib.hid (show BoxF w3 gf (sumQ rs 0) (3 + 10 * 0) from ⟨_, _, _, _, _, _, _, x3, by rw [sumQ_zero]; exact (QV.zero u3).fq q0⟩)
  have HZ3 := Lib.hid z3
  clear x3 hgf u3 z3 q0
  go_loopw [10] (fun iv wr => ∃ j : Nat, j ≤ N ∧ iv = .int .i64 j ∧ Hid (BoxF wr gf (sumQ rs j) (3 + 10 * j) ∧ Blk wr w.heap.size 24 #[.bool false, .slice none 0 0, .slice none 0 0]) ∧ Up w wr) (fun iv _ => N - (intOf iv).toNat)
  case atStart => exact ⟨0, Nat.zero_le _, rfl, Lib.hid ⟨HB3.out, HZ3.out⟩, U3⟩
  case round =>
    obtain ⟨k, hk, rfl, HB, hU⟩ := hrel
    have hus := hU.size
    obtain ⟨bx0, bz⟩ := HB.out
    obtain ⟨sb, Ab, nb, cb, Bb, mb, db, bx, hqb⟩ := bx0
    clear HB3 HZ3 U3
    by_cases hkN : k < N
    · have hkv : k < vs.length := by rw [← HL.out]; exact hkN
      have HQN := Lib.hid (sumQ_succ rs (k := k) (by rw [HRS.out]; exact hkv))
      have hkd := (HI.out k hkv).up hU
      obtain ⟨b, o, rfl, hb, hel⟩ := (HR.out.up hU) (by omega)
      obtain ⟨s, X, a, c, Y, m, d, hv, c0, c1, c2⟩ := hel k hkv
      rw [hv] at hkd
      clear hel hv
      have ki1 : (0 : Int) ≤ k := by omega
      have ki2 : (k : Int) < N := by omega
      have HLd := Lib.hid (fun wx (u : Up wr wx) => load_q (hkd.up u) (by omega))
      have HPl := Lib.hid (fun wx vx (u : Up wr wx) (h : FQ wx vx (rs.getD k 0) (8 + 1)) => plus_q (hqb.up u) h (by omega))
      have HHqb := Lib.hid hqb
      clear hkd hqb
      go_wp2_with fail
      obtain ⟨w4, hw4⟩ : ∃ w4, w4 = wr.alloc (Obj.cells #[.bool s, .slice X a c, .slice Y m d] 24) := ⟨_, rfl⟩
      have U4 : Up wr w4 := by rw [hw4]; exact (Below.refl _ _).alloc (Nat.le_refl _) _
      have by4 : Blk w4 wr.heap.size 24 #[.bool s, .slice X a c, .slice Y m d] := by rw [hw4]; exact Blk.new' _ _ _ rfl
      have bx4 := bx.up U4
      have bz4 := bz.up U4
      have lf := bx.lt
      obtain ⟨gy, hgy⟩ : ∃ g, g = wr.heap.size := ⟨_, rfl⟩
      rw [← hw4, ← hgy]
      rw [← hgy] at by4
      have ny : gf ≠ gy := by omega
      clear hw4 hgy bx bz
      refine wp_region_noPanic ?_
      refine wp_region_till (S := (fun wx => (wx.cell? ⟨gf, 0, none⟩ = some (.bool sb) ∧ wx.cell? ⟨gf, 1, none⟩ = some (.slice Ab nb cb) ∧ wx.cell? ⟨gf, 2, none⟩ = some (.slice Bb mb db)) ∧ (wx.cell? ⟨gy, 0, none⟩ = some (.bool s) ∧ wx.cell? ⟨gy, 1, none⟩ = some (.slice X a c) ∧ wx.cell? ⟨gy, 2, none⟩ = some (.slice Y m d)))) 5 [(0, 0), (1, 0), (2, 1), (3, 1), (4, 1)] [5] (by kernel_rfl) (by as_aux_lemma => kernel_rfl) (by as_aux_lemma => kernel_rfl) (by as_aux_lemma => kernel_rfl) (fun _ _ _ _ _ h => h) (And.intro (tri (Blk.drew bx4)) (tri (Blk.drew by4))) ?_
      intro O1 HO1
      refine wpT_take (i := 0) (v := ?_) (by as_aux_lemma => rw [HO1.out]; simp only [List.getElem?_toArray, List.getElem?_cons_zero]; rfl) (Or.inl ⟨(by rfl), ?_⟩) ?_
      rotate_left
      · as_aux_lemma => intro wx hSx; (try dsimp only at hSx); go_simp; try with_reducible rfl
      try simp only [Act.put, List.setIfInBounds_toArray, List.set_cons_zero, List.set_cons_succ]
      refine wpT_take (i := 1) (v := ?_) (by as_aux_lemma => rw [HO1.out]; simp only [List.getElem?_toArray, List.getElem?_cons_succ, List.getElem?_cons_zero]; rfl) (Or.inl ⟨(by rfl), ?_⟩) ?_
      rotate_left
      · as_aux_lemma => intro wx hSx; (try dsimp only at hSx); go_simp; try with_reducible rfl
      try simp only [Act.put, List.setIfInBounds_toArray, List.set_cons_zero, List.set_cons_succ]
      refine wpT_call (i := 2) (by as_aux_lemma => rw [HO1.out]; simp only [List.getElem?_toArray, List.getElem?_cons_succ, List.getElem?_cons_zero]; rfl) (by rfl) (fun K' hK => ?_)
      go_simp
      refine (HLd.out _ U4.drew).mono ?_
      rintro e w6 ⟨v6, rfl, hQ6, U6⟩
      obtain ⟨s6, A6, n6, c6, B6, m6, d6, rfl⟩ := hQ6.shape
      have HQ6 := Lib.hid hQ6
      have V6 : Up w4 w6 := Up.trans (Up.refl w4).drew U6
      have x6 := bx4.up V6
      have y6 := by4.up V6
      have k6 := And.intro (tri x6) (tri y6)
      clear hQ6
      go_wp2_with fail
      refine hK.out _ _ k6 (fun _ => ?_)
      clear hK K'
      try simp only [Act.put, List.setIfInBounds_toArray, List.set_cons_zero, List.set_cons_succ]
      refine wpT_call (i := 3) (by as_aux_lemma => rw [HO1.out]; simp only [List.getElem?_toArray, List.getElem?_cons_succ, List.getElem?_cons_zero]; rfl) (by rfl) (fun K' hK => ?_)
      go_simp
      refine (HPl.out _ _ (U4.trans V6) HQ6.out).mono ?_
      rintro e w7 ⟨v7, rfl, hQ7, U7⟩
      obtain ⟨s7, A7, n7, c7, B7, m7, d7, rfl⟩ := hQ7.shape
      have HQ7 := Lib.hid hQ7
      have V7 := V6.trans U7
      have x7 := bx4.up V7
      have y7 := by4.up V7
      have k7 := And.intro (tri x7) (tri y7)
      clear hQ7
      go_wp2_with fail
      refine hK.out _ _ k7 (fun _ => ?_)
      clear hK K'
      try simp only [Act.put, List.setIfInBounds_toArray, List.set_cons_zero, List.set_cons_succ]
      refine wpT_call (i := 4) (by as_aux_lemma => rw [HO1.out]; simp only [List.getElem?_toArray, List.getElem?_cons_succ, List.getElem?_cons_zero]; rfl) (by rfl) (fun K' hK => ?_)
      go_simp
      refine (lowest_q HQ7.out (by omega)).mono ?_
      rintro e w8 ⟨v8, rfl, hQ8, U8⟩
      obtain ⟨s8, A8, n8, c8, B8, m8, d8, rfl⟩ := hQ8.shape
      have HQ8 := Lib.hid hQ8
      have V8 := V7.trans U8
      have x8 := bx4.up V8
      have y8 := by4.up V8
      have z8 := bz4.up V8
      obtain ⟨k0, k1, k2⟩ := tri x8
      have k8 := And.intro (tri x8) (tri y8)
      have f0 := x8.frozen 0
      have f1 := x8.frozen 1
      have f2 := x8.frozen 2
      clear hQ8
      go_wp2_with fail
      refine hK.out _ _ k8 (fun _ => ?_)
      clear hK K'
      try simp only [Act.put, List.setIfInBounds_toArray, List.set_cons_zero, List.set_cons_succ]
      refine wpT_tail (i := 5) (by as_aux_lemma => rw [HO1.out]; simp only [List.getElem?_toArray, List.getElem?_cons_succ, List.getElem?_cons_zero]; rfl) (by rfl) (fun K' hK => ?_)
      go_simp
      go_wp2_with fail
      refine hK.out _ _ ?_
      clear hK K'
      try simp only [Act.put, List.setIfInBounds_toArray, List.set_cons_zero, List.set_cons_succ]
      refine wpT_end (NoPanic.normal ?_)
      clear HO1 O1
      have HB9 := Lib.hid (BoxF.of x8 (FQ.more (HQ8.out.fq (Nat.le_refl _)) (Nat.le_trans HQ7.out.qs (by omega : _ ≤ 3 + 10 * (k + 1)))))
      rw [← HQN.out] at HB9
      have hz9 := ((z8.far (p := ⟨gf, 0, none⟩) (by simp; omega) (.bool s8)).far (p := ⟨gf, 1, none⟩) (by simp; omega) (.slice A8 n8 c8)).far (p := ⟨gf, 2, none⟩) (by simp; omega) (.slice B8 m8 d8)
      have U9 := up_tri (g := gf) (hU.trans (U4.trans V8)) (by omega) (.bool s8) (.slice A8 n8 c8) (.slice B8 m8 d8)
      go_wp2_with fail
      go_roundw
      case rel => exact ⟨k + 1, by omega, by go_num, Lib.hid ⟨HB9.out, hz9⟩, U9⟩
      case measure => simp [intOf]; omega
    · have hkN' : k = N := by omega
      subst hkN'
      have HSt := Lib.hid (store_q hqb (by omega))
      obtain ⟨x0, x1, x2⟩ := tri bx
      clear hqb
      go_wp2_with fail
      refine HSt.out.mono ?_
      rintro e w5 ⟨v5, rfl, hQ5, U5⟩
      obtain ⟨s5, A5, n5, c5, B5, m5, d5, rfl⟩ := hQ5.shape
      have HQ5 := Lib.hid hQ5
      have z5 := bz.up U5
      obtain ⟨o0, o1, o2⟩ := tri z5
      have f0 := z5.frozen 0
      have f1 := z5.frozen 1
      have f2 := z5.frozen 2
      clear hQ5
      go_wp2_with fail
      obtain ⟨k0, k1, k2⟩ := tri (tri_set z5 (.bool s5) (.slice A5 n5 c5) (.slice B5 m5 d5))
      refine bodyPost_ret (v := .agg #[.bool s5, .slice A5 n5 c5, .slice B5 m5 d5]) ?_ rfl (ret_q z5 HQ5.out (hU.trans U5) (Nat.le_refl _))
      simp [results, Try.results35, go_sem, k0, k1, k2]
end Go.Proofs.Ytgkelddcklggnaa
