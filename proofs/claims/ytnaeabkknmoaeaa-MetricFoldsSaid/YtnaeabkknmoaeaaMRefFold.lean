/-
  The contract of the reference's Fold.
-/
import Derived.Test.YtnaeabkknmoaeaaMFold
namespace Go.Proofs.Ytnaeabkknmoaeaa
open Go.RowKit

set_option maxHeartbeats 1600000 in
theorem refFold_any (A : Option Addr) (cap : Nat) (zs : List Int) (w : World) (hr : SI w w.heap.size .i64 A zs) (hn : zs.length ≤ 65536) :
    Calls Try.prog 13 #[.slice A zs.length cap] w fun e w' => e = .returned (.agg #[.int .i64 (foldV zs).1, .int .i64 (foldV zs).2]) ∧ Up w w' := by
  have hb0 : decide (65536 < (zs.length : Int)) = false := by simp; omega
  go_enter Try.func13, Try.ntmps13
  go_wp2
  go_loopw [13] (fun i wr => ∃ k : Nat, k ≤ zs.length ∧ i = .int .i64 k ∧ (∀ c ∈ zs.take k, okc c = true) ∧ Up w wr ∧ Blk wr w.heap.size 24 #[.int .i64 0, .int .i64 0] ∧
      Blk wr (w.heap.size + 1) 24 #[.int .i64 (mfold (zs.take k)).1, .int .i64 (mfold (zs.take k)).2])
    (fun i _ => zs.length - (intOf i).toNat)
  case atStart =>
    refine ⟨0, Nat.zero_le _, rfl, by simp, ?_, ?_, ?_⟩
    · (repeat' (first | exact Below.refl _ _ | apply Below.alloc | apply Below.setCell | apply Below.drew)) <;> (simp <;> omega)
    · exact (Blk.new w 24 _).alloc _
    · have := Blk.new (w.alloc (Obj.cells #[Value.int IntKind.i64 0, Value.int IntKind.i64 0] 24)) 24 #[Value.int IntKind.i64 0, Value.int IntKind.i64 0]
      simpa [mfold] using this
  case round =>
    obtain ⟨k, hk, rfl, hok, hbel, hB0, hB1⟩ := hrel
    have hsz : w.heap.size + 1 < wr.heap.size := hB1.lt
    by_cases hlt : k < zs.length
    · obtain ⟨ad, rfl, had, hcell⟩ := (hr.below hbel).at_ hlt
      obtain ⟨z, hzd⟩ : ∃ z, z = zs[k] := ⟨_, rfl⟩
      have hstep := mfold_take zs k hlt
      have hok1 := okc_step hlt hok
      rw [← hzd] at hcell hstep hok1
      have hbad := foldV_bad hlt
      rw [← hzd] at hbad
      clear hzd
      cases hzk : okc z with
      | true =>
        have HO := Lib.hid (hok1 hzk)
        have hz := okc_of hzk
        clear hok1 hbad hzk
        have hbd := mfold_ok (by rw [List.length_take]; omega) hok
        obtain ⟨s, hs⟩ : ∃ s, s = mfold (zs.take k) := ⟨_, rfl⟩
        rw [← hs] at hbd hB1 hstep
        clear hs hok
        obtain ⟨N, P⟩ := s
        simp only [mstep] at hbd hB1 hstep
        have HS := Lib.hid hstep
        have c0 := hB1.cell 0
        have c1 := hB1.cell 1
        have f0 := hB1.frozen 0
        have f1 := hB1.frozen 1
        simp at c0 c1
        clear hstep
        have BB := ((hB1.set_ 0 (.int .i64 (N + z))).set_ 1 (.int .i64 (max P (N + z))))
        have hz2 : decide (1099511627776 < z) = false := by simp; omega
        go_wp2
        go_roundw
        case rel =>
          refine ⟨k + 1, by omega, by go_num, HO.out, ?_, ?_, ?_⟩
          · exact ((hbel.setCell (by simp) _).setCell (by simp) _)
          · exact (hB0.far (by simp) _).far (by simp) _
          · rw [HS.out, show (if P < N + z then N + z else P) = max P (N + z) from by split <;> omega]
            simpa using BB
        case measure => simp [intOf]; omega
      | false =>
        have hz := okc_not hzk
        have hbad' := hbad hzk
        have d0 := hB0.cell 0
        have d1 := hB0.cell 1
        have f0 := hB0.frozen 0
        have f1 := hB0.frozen 1
        simp at d0 d1
        have HF := Lib.hid hbad'
        clear hok1 hbad hzk hbad' hstep
        have hz3 : z < -1099511627776 ∨ (-1099511627776 ≤ z ∧ decide (1099511627776 < z) = true) := by
          rcases hz with hz | ⟨h1, h2⟩
          · exact .inl hz
          · right; simp at h2 ⊢; omega
        clear hz
        rcases hz3 with hz | ⟨hz, hz'⟩
        all_goals
          go_wp2
          refine bodyPost_ret (v := .agg #[.int .i64 0, .int .i64 0]) ?_ rfl ?_
          · simp [results, Try.results13, go_sem, d0, d1]
          · rw [HF.out]
            exact ⟨rfl, (hbel.setCell (by simp) _).setCell (by simp) _⟩
    · have hk' : k = zs.length := by omega
      subst hk'
      have hfv := foldV_good hok
      rw [List.take_length] at hB1
      rw [← hfv] at hB1
      obtain ⟨N, hN⟩ : ∃ N, N = (foldV zs).1 := ⟨_, rfl⟩
      obtain ⟨P, hP⟩ : ∃ P, P = (foldV zs).2 := ⟨_, rfl⟩
      rw [← hN, ← hP] at hB1
      have HN := Lib.hid hN
      have HP := Lib.hid hP
      clear hN hP hfv hok
      have c0 := hB1.cell 0
      have c1 := hB1.cell 1
      have d0 := hB0.cell 0
      have d1 := hB0.cell 1
      have f0 := hB0.frozen 0
      have f1 := hB0.frozen 1
      simp at c0 c1 d0 d1
      go_wp2
      refine bodyPost_ret (v := .agg #[.int .i64 N, .int .i64 P]) ?_ rfl ?_
      · simp [results, Try.results13, go_sem, d0, d1]
      · rw [HN.out, HP.out]
        exact ⟨rfl, (hbel.setCell (by simp) _).setCell (by simp) _⟩
end Go.Proofs.Ytnaeabkknmoaeaa
