/-
  The document's Sum.
-/
import Derived.Test.YtgkelddcklggnaaRSum
import Derived.Test.YtgkelddcklggnaaPI
import Derived.Test.YtgkelddcklggnaaBFall
namespace Go.Proofs.Ytgkelddcklggnaa
open Go.RowKit

theorem qs_sumQ (rs : List Rat) (h : ∀ j, j < rs.length → qs (rs.getD j 0) ≤ 9) : ∀ k, k ≤ rs.length → qs (sumQ rs k) ≤ 3 + 10 * k := by
  intro k
  induction k with
  | zero => intro _; rw [sumQ_zero]; exact qs_int 0 (by omega) (by omega)
  | succ k ih =>
    intro hk
    rw [sumQ_succ rs (by omega)]
    have a1 := qs_add (sumQ rs k) (rs.getD k 0)
    have a2 := h k (by omega)
    have := ih (by omega)
    omega

set_option maxRecDepth 100000 in
set_option maxHeartbeats 3200000 in
theorem rSum_q (A : Option Addr) (cap : Nat) (vs : List Value) (rs : List Rat) (w : World) (hr : EL w w.heap.size A vs) (hl : vs.length ≤ 1000) (hrs : rs.length = vs.length)
    (hi : ∀ j (h : j < vs.length), IV w vs[j] (rs.getD j 0) 8) :
    Calls Try.prog 36 #[.slice A vs.length cap] w (RetQ w (sumQ rs rs.length)) := by
  have HS := Lib.hid (qs_sumQ rs (fun j hj => (hi j (by omega)).qs))
  have HR := Lib.hid hr
  have HI := Lib.hid hi
  have HRS := Lib.hid hrs
  obtain ⟨N, hN⟩ : ∃ L, L = vs.length := ⟨_, rfl⟩
  have HL := Lib.hid hN
  rw [hrs]
  rw [← hN] at hl ⊢
  clear hr hi hrs hN
  go_enter Try.func36, Try.ntmps36
  go_wp2_with fail
  obtain ⟨w1, hw1⟩ : ∃ w1, w1 = w.alloc (Obj.cells #[.bool false, .slice none 0 0, .slice none 0 0] 24) := ⟨_, rfl⟩
  have U1 : Up w w1 := by rw [hw1]; exact (Below.refl _ _).alloc (Nat.le_refl _) _
  have r1 : Blk w1 w.heap.size 24 #[.bool false, .slice none 0 0, .slice none 0 0] := by rw [hw1]; exact Blk.new' _ _ _ rfl
  rw [← hw1]
  clear hw1
  refine (rFromInt_q 0 (by omega) (by omega)).mono ?_
  rintro e w2 ⟨v2, rfl, hQ2, U2⟩
  obtain ⟨s2, A2, n2, c2, B2, m2, d2, rfl⟩ := hQ2.shape
  have r2 := r1.up U2
  have V2 := U1.trans U2
  have HQ2 := Lib.hid hQ2
  clear hQ2 r1 U1 U2
  go_wp2_with fail
  obtain ⟨w3, hw3⟩ : ∃ w3, w3 = w2.alloc (Obj.cells #[.bool s2, .slice A2 n2 c2, .slice B2 m2 d2] 24) := ⟨_, rfl⟩
  have U3 : Up w2 w3 := by rw [hw3]; exact (Below.refl _ _).alloc (Nat.le_refl _) _
  have x3 : Blk w3 w2.heap.size 24 #[.bool s2, .slice A2 n2 c2, .slice B2 m2 d2] := by rw [hw3]; exact Blk.new' _ _ _ rfl
  rw [← hw3]
  clear hw3
  obtain ⟨gf, hgf⟩ : ∃ g, g = w2.heap.size := ⟨_, rfl⟩
  have hlt : w.heap.size < gf := by have := r2.lt; omega
  rw [← hgf] at x3 ⊢
  have HB3 := Lib.hid (show BoxQ w3 gf (sumQ rs 0) from ⟨_, _, _, _, _, _, _, x3, by rw [sumQ_zero]; exact HQ2.out.up U3⟩)
  have HZ3 := Lib.hid (r2.up U3)
  have V3 := V2.trans U3
  clear x3 hgf r2 U3 V2 HQ2
  go_loopw [4] (fun iv wr => ∃ j : Nat, j ≤ N ∧ iv = .int .i64 j ∧ Hid (BoxQ wr gf (sumQ rs j) ∧ Blk wr w.heap.size 24 #[.bool false, .slice none 0 0, .slice none 0 0]) ∧ Up w wr) (fun iv _ => N - (intOf iv).toNat)
  case atStart => exact ⟨0, Nat.zero_le _, rfl, Lib.hid ⟨HB3.out, HZ3.out⟩, V3⟩
  case round =>
    obtain ⟨k, hk, rfl, HB, hU⟩ := hrel
    have hus := hU.size
    obtain ⟨bx0, bz⟩ := HB.out
    obtain ⟨sb, Ab, nb, cb, Bb, mb, db, bx, hqb⟩ := bx0
    clear HB3 HZ3 V3
    by_cases hkN : k < N
    · have hkv : k < vs.length := by rw [← HL.out]; exact hkN
      have HQN := Lib.hid (sumQ_succ rs (k := k) (by rw [HRS.out]; exact hkv))
      have hkd := (HI.out k hkv).up hU
      obtain ⟨b, o, rfl, hb, hel⟩ := (HR.out.up hU) (by omega)
      obtain ⟨s, X, a, c, Y, m, d, hv, c0, c1, c2⟩ := hel k hkv
      rw [hv] at hkd
      have ki1 : (0 : Int) ≤ k := by omega
      have ki2 : (k : Int) < N := by omega
      have HAd := Lib.hid (fun wx (u : Up wr wx) => rAdd_q ((hqb.up u).iv (HS.out k (by rw [HRS.out]; omega))) (hkd.up u) (by omega))
      have lf := bx.lt
      have HE : Hid (∀ W : World, Up wr W → Blk W gf 24 #[.bool sb, .slice Ab nb cb, .slice Bb mb db] → (W.cell? ⟨gf, 0, none⟩ = some (.bool sb) ∧ W.cell? ⟨gf, 1, none⟩ = some (.slice Ab nb cb) ∧ W.cell? ⟨gf, 2, none⟩ = some (.slice Bb mb db)) ∧ (W.cell? ⟨b, o + k * 3, none⟩ = some (.bool s) ∧ W.cell? ⟨b, o + k * 3 + 1, none⟩ = some (.slice X a c) ∧ W.cell? ⟨b, o + k * 3 + 2, none⟩ = some (.slice Y m d))) := Lib.hid fun W hW hB => ⟨tri hB, by rw [hW.cell (by exact hb)]; exact c0, by rw [hW.cell (by exact hb)]; exact c1, by rw [hW.cell (by exact hb)]; exact c2⟩
      clear hel hv hkd hqb
      obtain ⟨x0, x1, x2⟩ := tri bx
      go_wp2_with fail
      refine wp_region_noPanic ?_
      refine wp_region_till (S := (fun wx => (wx.cell? ⟨gf, 0, none⟩ = some (.bool sb) ∧ wx.cell? ⟨gf, 1, none⟩ = some (.slice Ab nb cb) ∧ wx.cell? ⟨gf, 2, none⟩ = some (.slice Bb mb db)) ∧ (wx.cell? ⟨b, o + k * 3, none⟩ = some (.bool s) ∧ wx.cell? ⟨b, o + k * 3 + 1, none⟩ = some (.slice X a c) ∧ wx.cell? ⟨b, o + k * 3 + 2, none⟩ = some (.slice Y m d)))) 6 [(0, 0), (1, 0), (2, 0), (3, 0), (4, 0), (5, 1)] [6] (by kernel_rfl) (by as_aux_lemma => kernel_rfl) (by as_aux_lemma => kernel_rfl) (by as_aux_lemma => kernel_rfl) (fun _ _ _ _ _ h => h) (HE.out _ (Up.refl wr).drew (Blk.drew bx)) ?_
      intro O2 HO2
      refine wpT_take (i := 0) (v := ?_) (by as_aux_lemma => rw [HO2.out]; simp only [List.getElem?_toArray, List.getElem?_cons_zero]; rfl) (Or.inl ⟨(by rfl), ?_⟩) ?_
      rotate_left
      · as_aux_lemma => intro wx hSx; (try dsimp only at hSx); go_simp; try with_reducible rfl
      try simp only [Act.put, List.setIfInBounds_toArray, List.set_cons_zero, List.set_cons_succ]
      refine wpT_take (i := 1) (v := ?_) (by as_aux_lemma => rw [HO2.out]; simp only [List.getElem?_toArray, List.getElem?_cons_succ, List.getElem?_cons_zero]; rfl) (Or.inl ⟨(by rfl), ?_⟩) ?_
      rotate_left
      · as_aux_lemma => intro wx hSx; (try dsimp only at hSx); go_simp; try with_reducible rfl
      try simp only [Act.put, List.setIfInBounds_toArray, List.set_cons_zero, List.set_cons_succ]
      refine wpT_take (i := 2) (v := ?_) (by as_aux_lemma => rw [HO2.out]; simp only [List.getElem?_toArray, List.getElem?_cons_succ, List.getElem?_cons_zero]; rfl) (Or.inl ⟨(by rfl), ?_⟩) ?_
      rotate_left
      · as_aux_lemma => intro wx hSx; (try dsimp only at hSx); go_simp; try with_reducible rfl
      try simp only [Act.put, List.setIfInBounds_toArray, List.set_cons_zero, List.set_cons_succ]
      refine wpT_take (i := 3) (v := ?_) (by as_aux_lemma => rw [HO2.out]; simp only [List.getElem?_toArray, List.getElem?_cons_succ, List.getElem?_cons_zero]; rfl) (Or.inl ⟨(by rfl), ?_⟩) ?_
      rotate_left
      · as_aux_lemma => intro wx hSx; (try dsimp only at hSx); go_simp; try with_reducible rfl
      try simp only [Act.put, List.setIfInBounds_toArray, List.set_cons_zero, List.set_cons_succ]
      refine wpT_take (i := 4) (v := ?_) (by as_aux_lemma => rw [HO2.out]; simp only [List.getElem?_toArray, List.getElem?_cons_succ, List.getElem?_cons_zero]; rfl) (Or.inl ⟨(by rfl), ?_⟩) ?_
      rotate_left
      · as_aux_lemma => intro wx hSx; (try dsimp only at hSx); go_simp; try with_reducible rfl
      try simp only [Act.put, List.setIfInBounds_toArray, List.set_cons_zero, List.set_cons_succ]
      refine wpT_call (i := 5) (by as_aux_lemma => rw [HO2.out]; simp only [List.getElem?_toArray, List.getElem?_cons_succ, List.getElem?_cons_zero]; rfl) (by rfl) (fun K' hK => ?_)
      go_simp
      refine (HAd.out _ (Up.refl wr).drew).mono ?_
      rintro e w8 ⟨v8, rfl, hQ8, U8⟩
      obtain ⟨s8, A8, n8, c8, B8, m8, d8, rfl⟩ := hQ8.shape
      have HQ8 := Lib.hid hQ8
      have V8 : Up wr w8 := Up.trans (Up.refl wr).drew U8
      have x8 := bx.up V8
      have z8 := bz.up V8
      obtain ⟨k0, k1, k2⟩ := tri x8
      have k8 := HE.out _ V8 x8
      have f0 := x8.frozen 0
      have f1 := x8.frozen 1
      have f2 := x8.frozen 2
      clear hQ8
      go_wp2_with fail
      refine hK.out _ _ k8 (fun _ => ?_)
      clear hK K'
      try simp only [Act.put, List.setIfInBounds_toArray, List.set_cons_zero, List.set_cons_succ]
      refine wpT_tail (i := 6) (by as_aux_lemma => rw [HO2.out]; simp only [List.getElem?_toArray, List.getElem?_cons_succ, List.getElem?_cons_zero]; rfl) (by rfl) (fun K' hK => ?_)
      go_simp
      go_wp2_with fail
      refine hK.out _ _ ?_
      clear hK K'
      try simp only [Act.put, List.setIfInBounds_toArray, List.set_cons_zero, List.set_cons_succ]
      refine wpT_end (NoPanic.normal ?_)
      clear HO2 O2
      have HB9 := Lib.hid (BoxQ.of (t := 0) x8 HQ8.out)
      rw [← HQN.out] at HB9
      have hz9 := ((z8.far (p := ⟨gf, 0, none⟩) (by simp; omega) (.bool s8)).far (p := ⟨gf, 1, none⟩) (by simp; omega) (.slice A8 n8 c8)).far (p := ⟨gf, 2, none⟩) (by simp; omega) (.slice B8 m8 d8)
      have U9 := up_tri (g := gf) (hU.trans V8) (by omega) (.bool s8) (.slice A8 n8 c8) (.slice B8 m8 d8)
      go_wp2_with fail
      go_roundw
      case rel => exact ⟨k + 1, by omega, by go_num, Lib.hid ⟨HB9.out, hz9⟩, U9⟩
      case measure => simp [intOf]; omega
    · have hkN' : k = N := by omega
      subst hkN'
      obtain ⟨x0, x1, x2⟩ := tri bx
      obtain ⟨o0, o1, o2⟩ := tri bz
      have f0 := bz.frozen 0
      have f1 := bz.frozen 1
      have f2 := bz.frozen 2
      have HQ5 := Lib.hid hqb
      clear hqb
      go_wp2_with fail
      obtain ⟨k0, k1, k2⟩ := tri (tri_set bz (.bool sb) (.slice Ab nb cb) (.slice Bb mb db))
      refine bodyPost_ret (v := .agg #[.bool sb, .slice Ab nb cb, .slice Bb mb db]) ?_ rfl (ret_q bz HQ5.out hU (Nat.le_refl _))
      simp [results, Try.results36, go_sem, k0, k1, k2]
end Go.Proofs.Ytgkelddcklggnaa
