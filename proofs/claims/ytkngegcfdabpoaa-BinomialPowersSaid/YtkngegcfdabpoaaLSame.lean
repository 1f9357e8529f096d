/-
  keep.SameRats on canonical lists.
-/
import Derived.Test.YtkngegcfdabpoaaLList
import Derived.Test.YtkngegcfdabpoaaPD
import Derived.Test.YtkngegcfdabpoaaPA
namespace Go.Proofs.Ytkngegcfdabpoaa
open Go.RowKit

theorem list_ne {ps qs : List Rat} {k : Nat} (h : ps.getD k 0 ≠ qs.getD k 0) : ps ≠ qs := fun e => h (by rw [e])
theorem list_eq {ps qs : List Rat} (hl : ps.length = qs.length) (h : ∀ j, j < ps.length → ps.getD j 0 = qs.getD j 0) : ps = qs := by
  refine List.ext_getElem hl fun i h1 h2 => ?_
  have := h i h1
  simpa [h1, h2] using this

set_option maxRecDepth 100000 in
set_option maxHeartbeats 3200000 in
theorem sameRats_q {A : Option Addr} {cap : Nat} {ps : List Rat} {A' : Option Addr} {cap' : Nat} {rs : List Rat} {B : Nat} {w : World} (h : RX none w A ps) (h' : RX none w A' rs) (hB : ∀ q ∈ ps, qs q ≤ B) (hC : ∀ q ∈ rs, qs q ≤ B) (hB' : B ≤ 17179869184) (hl : ps.length ≤ 1000) (hl' : rs.length ≤ 1000) :
    Calls Try.prog 12 #[.slice A ps.length cap, .slice A' rs.length cap'] w fun e w' => e = .returned (.bool (decide (ps = rs))) ∧ Up w w' := by
  by_cases hlen : ps.length = rs.length
  · have HR := Lib.hid h
    have HR' := Lib.hid h'
    have HBP := Lib.hid hB
    have HBR := Lib.hid hC
    obtain ⟨N, hN⟩ : ∃ L, L = ps.length := ⟨_, rfl⟩
    have HL := Lib.hid hN
    have HL' := Lib.hid (hN.trans hlen)
    rw [← hlen, ← hN]
    rw [← hN] at hl
    have t0 : (N != N) = false := by simp
    clear h h' hB hC hlen hN hl'
    go_enter Try.func12, Try.ntmps12
    go_wp2_with fail
    go_loopw [13] (fun iv wr => ∃ j : Nat, j ≤ N ∧ iv = .int .i64 j ∧ Hid (∀ i, i < j → ps.getD i 0 = rs.getD i 0) ∧ Up w wr) (fun iv _ => N - (intOf iv).toNat)
    case atStart => exact ⟨0, Nat.zero_le _, rfl, Lib.hid (fun i h => absurd h (by omega)), Up.refl _⟩
    case round =>
      obtain ⟨k, hk, rfl, HH, hU⟩ := hrel
      by_cases hkN : k < N
      · have t1 : decide ((k : Int) < (N : Int)) = true := by simp; omega
        obtain ⟨b, off, s, X, a, c, Y, m, d, rfl, hb, hx, c0, c1, c2⟩ := (HR.out.up hU).at_ (k := k) (by have := HL.out; omega)
        obtain ⟨bz, offz, sz, Xz, az, cz, Yz, mz, dz, rfl, hbz, hxz, c0z, c1z, c2z⟩ := (HR'.out.up hU).at_ (k := k) (by have := HL'.out; omega)
        have ki1 : (0 : Int) ≤ k := by omega
        have ki2 : (k : Int) < N := by omega
        have hp1 : ps.getD k 0 ∈ ps := by have := HL.out; simp [show k < ps.length by omega]
        have hr1 : rs.getD k 0 ∈ rs := by have := HL'.out; simp [show k < rs.length by omega]
        have HS := Lib.hid (fun wx (u : Up wr wx) => sameRat_q (QV.up hx u) (QV.up hxz u) (Nat.le_trans (HBP.out _ hp1) hB') (Nat.le_trans (HBR.out _ hr1) hB'))
        obtain ⟨t, ht⟩ : ∃ t, t = decide (ps.getD k 0 = rs.getD k 0) := ⟨_, rfl⟩
        rw [← ht] at HS
        have HE : Hid (∀ W : World, Up wr W → (W.cell? ⟨b, off + k * 3, none⟩ = some (.bool s) ∧ W.cell? ⟨b, off + k * 3 + 1, none⟩ = some (.slice X a c) ∧ W.cell? ⟨b, off + k * 3 + 2, none⟩ = some (.slice Y m d)) ∧ (W.cell? ⟨bz, offz + k * 3, none⟩ = some (.bool sz) ∧ W.cell? ⟨bz, offz + k * 3 + 1, none⟩ = some (.slice Xz az cz) ∧ W.cell? ⟨bz, offz + k * 3 + 2, none⟩ = some (.slice Yz mz dz))) := Lib.hid fun W hW => And.intro (⟨by rw [hW.cell (by exact hb)]; exact c0, by rw [hW.cell (by exact hb)]; exact c1, by rw [hW.cell (by exact hb)]; exact c2⟩) (⟨by rw [hW.cell (by exact hbz)]; exact c0z, by rw [hW.cell (by exact hbz)]; exact c1z, by rw [hW.cell (by exact hbz)]; exact c2z⟩)
        clear hx hxz hp1 hr1
        cases t with
        | true =>
          have HH2 := Lib.hid (show ∀ i, i < k + 1 → ps.getD i 0 = rs.getD i 0 from fun i hi => by
            by_cases e : i = k
            · rw [e]; exact of_decide_eq_true ht.symm
            · exact HH.out i (by omega))
          clear ht HH
          go_wp2_with fail
          refine wp_region_noPanic ?_
          refine wp_region_sched (S := (fun wx => (wx.cell? ⟨b, off + k * 3, none⟩ = some (.bool s) ∧ wx.cell? ⟨b, off + k * 3 + 1, none⟩ = some (.slice X a c) ∧ wx.cell? ⟨b, off + k * 3 + 2, none⟩ = some (.slice Y m d)) ∧ (wx.cell? ⟨bz, offz + k * 3, none⟩ = some (.bool sz) ∧ wx.cell? ⟨bz, offz + k * 3 + 1, none⟩ = some (.slice Xz az cz) ∧ wx.cell? ⟨bz, offz + k * 3 + 2, none⟩ = some (.slice Yz mz dz)))) [(0, false), (1, false), (2, false), (3, false), (4, false), (5, false), (6, false), (7, false), (8, true), (9, false)] (by kernel_rfl) (by as_aux_lemma => kernel_rfl) (by as_aux_lemma => kernel_rfl) (by as_aux_lemma => kernel_rfl) (fun _ _ _ _ _ h => h) (HE.out _ (Up.refl wr).drew) ?_
          intro O6 HO6
          refine wpSched_take (i := 0) (v := ?v6x1) (by as_aux_lemma => rw [HO6.out]; simp only [List.getElem?_toArray, List.getElem?_cons_zero]; rfl) (Or.inl ⟨(by rfl), ?y6x1⟩) ?r6x1
          case y6x1 => as_aux_lemma => intro wx hSx; (try dsimp only at hSx); go_simp; try with_reducible rfl
          try simp only [Act.put, List.setIfInBounds_toArray, List.set_cons_zero, List.set_cons_succ]
          refine wpSched_take (i := 1) (v := ?v6x2) (by as_aux_lemma => rw [HO6.out]; simp only [List.getElem?_toArray, List.getElem?_cons_succ, List.getElem?_cons_zero]; rfl) (Or.inl ⟨(by rfl), ?y6x2⟩) ?r6x2
          case y6x2 => as_aux_lemma => intro wx hSx; (try dsimp only at hSx); go_simp; try with_reducible rfl
          try simp only [Act.put, List.setIfInBounds_toArray, List.set_cons_zero, List.set_cons_succ]
          refine wpSched_take (i := 2) (v := ?v6x3) (by as_aux_lemma => rw [HO6.out]; simp only [List.getElem?_toArray, List.getElem?_cons_succ, List.getElem?_cons_zero]; rfl) (Or.inl ⟨(by rfl), ?y6x3⟩) ?r6x3
          case y6x3 => as_aux_lemma => intro wx hSx; (try dsimp only at hSx); go_simp; try with_reducible rfl
          try simp only [Act.put, List.setIfInBounds_toArray, List.set_cons_zero, List.set_cons_succ]
          refine wpSched_take (i := 3) (v := ?v6x4) (by as_aux_lemma => rw [HO6.out]; simp only [List.getElem?_toArray, List.getElem?_cons_succ, List.getElem?_cons_zero]; rfl) (Or.inl ⟨(by rfl), ?y6x4⟩) ?r6x4
          case y6x4 => as_aux_lemma => intro wx hSx; (try dsimp only at hSx); go_simp; try with_reducible rfl
          try simp only [Act.put, List.setIfInBounds_toArray, List.set_cons_zero, List.set_cons_succ]
          refine wpSched_take (i := 4) (v := ?v6x5) (by as_aux_lemma => rw [HO6.out]; simp only [List.getElem?_toArray, List.getElem?_cons_succ, List.getElem?_cons_zero]; rfl) (Or.inl ⟨(by rfl), ?y6x5⟩) ?r6x5
          case y6x5 => as_aux_lemma => intro wx hSx; (try dsimp only at hSx); go_simp; try with_reducible rfl
          try simp only [Act.put, List.setIfInBounds_toArray, List.set_cons_zero, List.set_cons_succ]
          refine wpSched_take (i := 5) (v := ?v6x6) (by as_aux_lemma => rw [HO6.out]; simp only [List.getElem?_toArray, List.getElem?_cons_succ, List.getElem?_cons_zero]; rfl) (Or.inl ⟨(by rfl), ?y6x6⟩) ?r6x6
          case y6x6 => as_aux_lemma => intro wx hSx; (try dsimp only at hSx); go_simp; try with_reducible rfl
          try simp only [Act.put, List.setIfInBounds_toArray, List.set_cons_zero, List.set_cons_succ]
          refine wpSched_take (i := 6) (v := ?v6x7) (by as_aux_lemma => rw [HO6.out]; simp only [List.getElem?_toArray, List.getElem?_cons_succ, List.getElem?_cons_zero]; rfl) (Or.inl ⟨(by rfl), ?y6x7⟩) ?r6x7
          case y6x7 => as_aux_lemma => intro wx hSx; (try dsimp only at hSx); go_simp; try with_reducible rfl
          try simp only [Act.put, List.setIfInBounds_toArray, List.set_cons_zero, List.set_cons_succ]
          refine wpSched_take (i := 7) (v := ?v6x8) (by as_aux_lemma => rw [HO6.out]; simp only [List.getElem?_toArray, List.getElem?_cons_succ, List.getElem?_cons_zero]; rfl) (Or.inl ⟨(by rfl), ?y6x8⟩) ?r6x8
          case y6x8 => as_aux_lemma => intro wx hSx; (try dsimp only at hSx); go_simp; try with_reducible rfl
          try simp only [Act.put, List.setIfInBounds_toArray, List.set_cons_zero, List.set_cons_succ]
          refine wpSched_call (i := 8) (by as_aux_lemma => rw [HO6.out]; simp only [List.getElem?_toArray, List.getElem?_cons_succ, List.getElem?_cons_zero]; rfl) (by rfl) (fun K' hK => ?_)
          go_simp
          refine (HS.out _ (Up.refl wr).drew).mono ?_
          rintro e w6 ⟨rfl, U6⟩
          have V6 : Up wr w6 := Up.trans (Up.refl wr).drew U6
          have kk6 := HE.out _ V6
          go_wp2_with fail
          refine hK.out _ _ kk6 (fun _ => ?_)
          clear hK K'
          try simp only [Act.put, List.setIfInBounds_toArray, List.set_cons_zero, List.set_cons_succ]
          refine wpSched_take (i := 9) (v := ?v6x9) (by as_aux_lemma => rw [HO6.out]; simp only [List.getElem?_toArray, List.getElem?_cons_succ, List.getElem?_cons_zero]; rfl) (Or.inl ⟨(by rfl), ?y6x9⟩) ?r6x9
          case y6x9 => as_aux_lemma => intro wx hSx; (try dsimp only at hSx); go_simp; try with_reducible rfl
          try simp only [Act.put, List.setIfInBounds_toArray, List.set_cons_zero, List.set_cons_succ]
          refine wpSched_end (NoPanic.normal ?_)
          clear HO6 O6
          go_wp2_with fail
          go_roundw
          case rel => exact ⟨k + 1, by omega, by go_num, HH2, hU.trans V6⟩
          case measure => simp [intOf]; omega
        | false =>
          have HD := Lib.hid (show decide (ps = rs) = false from decide_eq_false (list_ne (of_decide_eq_false ht.symm)))
          clear ht HH
          go_wp2_with fail
          refine wp_region_noPanic ?_
          refine wp_region_sched (S := (fun wx => (wx.cell? ⟨b, off + k * 3, none⟩ = some (.bool s) ∧ wx.cell? ⟨b, off + k * 3 + 1, none⟩ = some (.slice X a c) ∧ wx.cell? ⟨b, off + k * 3 + 2, none⟩ = some (.slice Y m d)) ∧ (wx.cell? ⟨bz, offz + k * 3, none⟩ = some (.bool sz) ∧ wx.cell? ⟨bz, offz + k * 3 + 1, none⟩ = some (.slice Xz az cz) ∧ wx.cell? ⟨bz, offz + k * 3 + 2, none⟩ = some (.slice Yz mz dz)))) [(0, false), (1, false), (2, false), (3, false), (4, false), (5, false), (6, false), (7, false), (8, true), (9, false)] (by kernel_rfl) (by as_aux_lemma => kernel_rfl) (by as_aux_lemma => kernel_rfl) (by as_aux_lemma => kernel_rfl) (fun _ _ _ _ _ h => h) (HE.out _ (Up.refl wr).drew) ?_
          intro O7 HO7
          refine wpSched_take (i := 0) (v := ?v7x1) (by as_aux_lemma => rw [HO7.out]; simp only [List.getElem?_toArray, List.getElem?_cons_zero]; rfl) (Or.inl ⟨(by rfl), ?y7x1⟩) ?r7x1
          case y7x1 => as_aux_lemma => intro wx hSx; (try dsimp only at hSx); go_simp; try with_reducible rfl
          try simp only [Act.put, List.setIfInBounds_toArray, List.set_cons_zero, List.set_cons_succ]
          refine wpSched_take (i := 1) (v := ?v7x2) (by as_aux_lemma => rw [HO7.out]; simp only [List.getElem?_toArray, List.getElem?_cons_succ, List.getElem?_cons_zero]; rfl) (Or.inl ⟨(by rfl), ?y7x2⟩) ?r7x2
          case y7x2 => as_aux_lemma => intro wx hSx; (try dsimp only at hSx); go_simp; try with_reducible rfl
          try simp only [Act.put, List.setIfInBounds_toArray, List.set_cons_zero, List.set_cons_succ]
          refine wpSched_take (i := 2) (v := ?v7x3) (by as_aux_lemma => rw [HO7.out]; simp only [List.getElem?_toArray, List.getElem?_cons_succ, List.getElem?_cons_zero]; rfl) (Or.inl ⟨(by rfl), ?y7x3⟩) ?r7x3
          case y7x3 => as_aux_lemma => intro wx hSx; (try dsimp only at hSx); go_simp; try with_reducible rfl
          try simp only [Act.put, List.setIfInBounds_toArray, List.set_cons_zero, List.set_cons_succ]
          refine wpSched_take (i := 3) (v := ?v7x4) (by as_aux_lemma => rw [HO7.out]; simp only [List.getElem?_toArray, List.getElem?_cons_succ, List.getElem?_cons_zero]; rfl) (Or.inl ⟨(by rfl), ?y7x4⟩) ?r7x4
          case y7x4 => as_aux_lemma => intro wx hSx; (try dsimp only at hSx); go_simp; try with_reducible rfl
          try simp only [Act.put, List.setIfInBounds_toArray, List.set_cons_zero, List.set_cons_succ]
          refine wpSched_take (i := 4) (v := ?v7x5) (by as_aux_lemma => rw [HO7.out]; simp only [List.getElem?_toArray, List.getElem?_cons_succ, List.getElem?_cons_zero]; rfl) (Or.inl ⟨(by rfl), ?y7x5⟩) ?r7x5
          case y7x5 => as_aux_lemma => intro wx hSx; (try dsimp only at hSx); go_simp; try with_reducible rfl
          try simp only [Act.put, List.setIfInBounds_toArray, List.set_cons_zero, List.set_cons_succ]
          refine wpSched_take (i := 5) (v := ?v7x6) (by as_aux_lemma => rw [HO7.out]; simp only [List.getElem?_toArray, List.getElem?_cons_succ, List.getElem?_cons_zero]; rfl) (Or.inl ⟨(by rfl), ?y7x6⟩) ?r7x6
          case y7x6 => as_aux_lemma => intro wx hSx; (try dsimp only at hSx); go_simp; try with_reducible rfl
          try simp only [Act.put, List.setIfInBounds_toArray, List.set_cons_zero, List.set_cons_succ]
          refine wpSched_take (i := 6) (v := ?v7x7) (by as_aux_lemma => rw [HO7.out]; simp only [List.getElem?_toArray, List.getElem?_cons_succ, List.getElem?_cons_zero]; rfl) (Or.inl ⟨(by rfl), ?y7x7⟩) ?r7x7
          case y7x7 => as_aux_lemma => intro wx hSx; (try dsimp only at hSx); go_simp; try with_reducible rfl
          try simp only [Act.put, List.setIfInBounds_toArray, List.set_cons_zero, List.set_cons_succ]
          refine wpSched_take (i := 7) (v := ?v7x8) (by as_aux_lemma => rw [HO7.out]; simp only [List.getElem?_toArray, List.getElem?_cons_succ, List.getElem?_cons_zero]; rfl) (Or.inl ⟨(by rfl), ?y7x8⟩) ?r7x8
          case y7x8 => as_aux_lemma => intro wx hSx; (try dsimp only at hSx); go_simp; try with_reducible rfl
          try simp only [Act.put, List.setIfInBounds_toArray, List.set_cons_zero, List.set_cons_succ]
          refine wpSched_call (i := 8) (by as_aux_lemma => rw [HO7.out]; simp only [List.getElem?_toArray, List.getElem?_cons_succ, List.getElem?_cons_zero]; rfl) (by rfl) (fun K' hK => ?_)
          go_simp
          refine (HS.out _ (Up.refl wr).drew).mono ?_
          rintro e w6 ⟨rfl, U6⟩
          have V6 : Up wr w6 := Up.trans (Up.refl wr).drew U6
          have kk6 := HE.out _ V6
          go_wp2_with fail
          refine hK.out _ _ kk6 (fun _ => ?_)
          clear hK K'
          try simp only [Act.put, List.setIfInBounds_toArray, List.set_cons_zero, List.set_cons_succ]
          refine wpSched_take (i := 9) (v := ?v7x9) (by as_aux_lemma => rw [HO7.out]; simp only [List.getElem?_toArray, List.getElem?_cons_succ, List.getElem?_cons_zero]; rfl) (Or.inl ⟨(by rfl), ?y7x9⟩) ?r7x9
          case y7x9 => as_aux_lemma => intro wx hSx; (try dsimp only at hSx); go_simp; try with_reducible rfl
          try simp only [Act.put, List.setIfInBounds_toArray, List.set_cons_zero, List.set_cons_succ]
          refine wpSched_end (NoPanic.normal ?_)
          clear HO7 O7
          go_wp2_with fail
          go_ret
          rw [HD.out]
          exact ⟨rfl, hU.trans V6⟩
      · have t1 : decide ((k : Int) < (N : Int)) = false := by simp; omega
        have HD := Lib.hid (show decide (ps = rs) = true from decide_eq_true (list_eq (by rw [← HL.out]; exact HL'.out) (fun j hj => HH.out j (by have := HL.out; omega))))
        go_wp2_with fail
        go_ret
        rw [HD.out]
        exact ⟨rfl, hU⟩
  · have HD := Lib.hid (show decide (ps = rs) = false from decide_eq_false (fun e => hlen (by rw [e])))
    have t0 : (ps.length != rs.length) = true := by simpa using hlen
    have t00 : (ps.length == rs.length) = false := by simpa using hlen
    clear h h' hB hC
    go_enter Try.func12, Try.ntmps12
    go_wp2_with fail
    go_ret
    rw [HD.out]
    exact ⟨rfl, Up.refl _⟩
end Go.Proofs.Ytkngegcfdabpoaa
