/-
  The contracts of metric.single, metric.Then, metric.Fold and of the reference's Fold.
-/
import Derived.Test.YtnaeabkknmoaeaaRows
import Derived.Test.YtnaeabkknmoaeaaWords
import Derived.Test.YtnaeabkknmoaeaaMetPlain
namespace Go.Proofs.Ytnaeabkknmoaeaa
open Go.RowKit

def okc (c : Int) : Bool := decide (-1099511627776 ≤ c) && decide (c ≤ 1099511627776)
theorem okc_of {c : Int} (h : okc c = true) : -1099511627776 ≤ c ∧ c ≤ 1099511627776 := by simpa [okc] using h
theorem okc_not {c : Int} (h : okc c = false) : c < -1099511627776 ∨ (-1099511627776 ≤ c ∧ decide (c ≤ 1099511627776) = false) := by simp [okc] at h ⊢; omega
def foldV (zs : List Int) : Int × Int := if zs.all okc then mfold zs else (0, 0)
theorem foldV_good {zs : List Int} (h : ∀ c ∈ zs.take zs.length, okc c = true) : foldV zs = mfold zs := by
  rw [foldV, if_pos]; simpa using h
theorem foldV_bad {zs : List Int} {k : Nat} (hk : k < zs.length) (h : okc zs[k] = false) : foldV zs = (0, 0) := by
  rw [foldV, if_neg]
  intro hall
  rw [List.all_eq_true] at hall
  have := hall zs[k] (List.getElem_mem hk)
  rw [h] at this; cases this
theorem okc_step {zs : List Int} {k : Nat} (hk : k < zs.length) (h : ∀ c ∈ zs.take k, okc c = true) (hz : okc zs[k] = true) : ∀ c ∈ zs.take (k + 1), okc c = true := by
  intro c hc
  rw [List.take_succ_eq_append_getElem hk, List.mem_append] at hc
  rcases hc with hc | hc
  · exact h c hc
  · simp at hc; rw [hc]; exact hz
theorem foldV_mfold {l : List Int} (h : ∀ c ∈ l, okc c = true) : foldV l = mfold l := by rw [foldV, if_pos]; simpa using h
theorem mfold_ok {l : List Int} (hl : l.length ≤ 65536) (h : ∀ c ∈ l, okc c = true) :
    -72057594037927936 ≤ (mfold l).1 ∧ (mfold l).1 ≤ (mfold l).2 ∧ 0 ≤ (mfold l).2 ∧ (mfold l).2 ≤ 72057594037927936 := by
  have := mfold_small l l.length hl (fun c hc => okc_of (h c hc))
  rwa [List.take_length] at this

set_option maxHeartbeats 400000 in
theorem single_any (n : Int) (w : World) :
    Calls Try.prog 40 #[.int .i64 n] w fun e w' => e = .returned (.agg #[.int .i64 n, .int .i64 (max 0 n)]) ∧ Up w w' := by
  by_cases h : n ≤ 0
  all_goals
    go_enter Try.func40, Try.ntmps40
    go_wp2
    exact bodyPost_ret (v := .agg #[.int .i64 n, .int .i64 (max 0 n)]) (by first | (rw [Int.max_eq_left h]; simp [results, Try.results40, go_sem]) | (rw [Int.max_eq_right (by omega)]; simp [results, Try.results40, go_sem])) rfl ⟨rfl, (Below.refl _ _).alloc (Nat.le_refl _) _⟩

set_option maxHeartbeats 400000 in
theorem then_fit (a p b q : Int) (w : World) (h1 : -1152921504606846976 ≤ a) (h2 : a ≤ p) (h3 : 0 ≤ p) (h4 : p ≤ 1152921504606846976)
     (h5 : -1152921504606846976 ≤ b) (h6 : b ≤ q) (h7 : 0 ≤ q) (h8 : q ≤ 1152921504606846976) :
    Calls Try.prog 21 #[.agg #[.int .i64 a, .int .i64 p], .agg #[.int .i64 b, .int .i64 q]] w fun e w' => e = .returned (.agg #[.int .i64 (a + b), .int .i64 (max p (a + q))]) ∧ Up w w' := by
  by_cases h : a + q ≤ p
  all_goals
    go_enter Try.func21, Try.ntmps21
    go_wp2
    refine bodyPost_ret (v := .agg #[.int .i64 (a + b), .int .i64 (max p (a + q))]) ?_ rfl ⟨rfl, ?_⟩
    · first | (rw [Int.max_eq_left h]; simp [results, Try.results21, go_sem]) | (rw [Int.max_eq_right (by omega)]; simp [results, Try.results21, go_sem])
    · (repeat' (first | exact Below.refl _ _ | apply Below.alloc | apply Below.setCell | apply Below.drew)) <;> (simp <;> omega)

set_option maxHeartbeats 1600000 in
theorem fold_any (A : Option Addr) (cap : Nat) (zs : List Int) (w : World) (hr : SI w w.heap.size .i64 A zs) (hn : zs.length ≤ 65536) :
    Calls Try.prog 12 #[.slice A zs.length cap] w fun e w' => e = .returned (.agg #[.int .i64 (foldV zs).1, .int .i64 (foldV zs).2]) ∧ Up w w' := by
  have hb0 : decide (65536 < (zs.length : Int)) = false := by simp; omega
  go_enter Try.func12, Try.ntmps12
  go_wp2
  go_loopw [13] (fun i wr => ∃ k : Nat, k ≤ zs.length ∧ i = .int .i64 k ∧ (∀ c ∈ zs.take k, okc c = true) ∧ Up w wr ∧ Blk wr w.heap.size 24 #[.int .i64 0, .int .i64 0] ∧
      Blk wr (w.heap.size + 1) 24 #[.int .i64 (mfold (zs.take k)).1, .int .i64 (mfold (zs.take k)).2])
    (fun i _ => zs.length - (intOf i).toNat)
  case atStart =>
    refine ⟨0, Nat.zero_le _, rfl, by simp, ((Below.refl _ _).alloc (Nat.le_refl _) _).alloc (by simp) _, ?_, ?_⟩
    · exact (Blk.new w 24 _).alloc _
    · have := Blk.new (w.alloc (Obj.cells #[Value.int IntKind.i64 0, Value.int IntKind.i64 0] 24)) 24 #[Value.int IntKind.i64 0, Value.int IntKind.i64 0]
      simpa [mfold] using this
  case round =>
    obtain ⟨k, hk, rfl, hok, hbel, hB0, hB1⟩ := hrel
    have hsz : w.heap.size + 1 < wr.heap.size := hB1.lt
    by_cases hlt : k < zs.length
    · obtain ⟨ad, rfl, had, hcell⟩ := (hr.below hbel).at_ hlt
      obtain ⟨z, hzd⟩ : ∃ z, z = zs[k] := ⟨_, rfl⟩
      have hstep := mfold_take zs k hlt
      have hok1 := okc_step hlt hok
      rw [← hzd] at hcell hstep hok1
      have hbad := foldV_bad hlt
      rw [← hzd] at hbad
      clear hzd
      cases hzk : okc z with
      | true =>
        have hok2 := hok1 hzk
        have hz := okc_of hzk
        have HO := Lib.hid hok2
        clear hok1 hbad hzk
        have hbd := mfold_ok (by rw [List.length_take]; omega) hok
        obtain ⟨s, hs⟩ : ∃ s, s = mfold (zs.take k) := ⟨_, rfl⟩
        rw [← hs] at hbd hB1 hstep
        clear hs hok
        obtain ⟨N, P⟩ := s
        simp only [mstep] at hbd hB1 hstep
        have hN2 : max P (N + z) = max P (N + max 0 z) := by omega
        rw [hN2] at hstep
        have HS := Lib.hid hstep
        have c0 := hB1.cell 0
        have c1 := hB1.cell 1
        have f0 := hB1.frozen 0
        have f1 := hB1.frozen 1
        simp at c0 c1
        clear hstep hN2 hok2
        go_wp2
        go_region_with (first
          | (go_at_call 40; refine (single_any z _).mono ?_; rintro e w1 ⟨rfl, hb1⟩; have z1 : w.heap.size + 1 < w1.heap.size := (by have := hb1.size; simp at this; omega); have e0 := (hb1.cell (p := ⟨w.heap.size + 1, 0, none⟩) (by simp; omega)).trans c0; have e1 := (hb1.cell (p := ⟨w.heap.size + 1, 1, none⟩) (by simp; omega)).trans c1)
          | (go_at_call 21; refine (then_fit N P z (max 0 z) _ (by omega) (by omega) (by omega) (by omega) (by omega) (by omega) (by omega) (by omega)).mono ?_; rintro e w2 ⟨rfl, hb2⟩; have a0 := (hb2.cell (p := ⟨w.heap.size + 1, 0, none⟩) (by simp; omega)).trans e0; have a1 := (hb2.cell (p := ⟨w.heap.size + 1, 1, none⟩) (by simp; omega)).trans e1; have g0 := (hb2.frozen (p := ⟨w.heap.size + 1, 0, none⟩) (by simp; omega)).trans ((hb1.frozen (p := ⟨w.heap.size + 1, 0, none⟩) (by simp; omega)).trans f0); have g1 := (hb2.frozen (p := ⟨w.heap.size + 1, 1, none⟩) (by simp; omega)).trans ((hb1.frozen (p := ⟨w.heap.size + 1, 1, none⟩) (by simp; omega)).trans f1)))
        all_goals
          go_wp2
          go_roundw
          case rel =>
            have U2 : Up wr w2 := Up.trans (Up.trans ((Below.refl _ wr).drew) hb1) hb2
            have BB := (((hB1.up U2).set_ 0 (.int .i64 (N + z))).set_ 1 (.int .i64 (max P (N + max 0 z))))
            refine ⟨k + 1, by omega, by go_num, ?_, ?_, ?_, ?_⟩
            · exact HO.out
            · exact ((Up.trans hbel U2).setCell (by simp) _).setCell (by simp) _
            · exact ((hB0.up U2).far (by simp) _).far (by simp) _
            · rw [HS.out]; simpa using BB
          case measure => simp [intOf]; omega
      | false =>
        have hz := okc_not hzk
        have hbad' := hbad hzk
        have d0 := hB0.cell 0
        have d1 := hB0.cell 1
        have f0 := hB0.frozen 0
        have f1 := hB0.frozen 1
        simp at d0 d1
        have HF := Lib.hid hbad'
        clear hok1 hbad hzk hbad' hstep
        rcases hz with hz | ⟨hz, hz'⟩
        all_goals
          go_wp2
          refine bodyPost_ret (v := .agg #[.int .i64 0, .int .i64 0]) ?_ rfl ?_
          · simp [results, Try.results12, go_sem, d0, d1]
          · rw [HF.out]
            exact ⟨rfl, (hbel.setCell (by simp) _).setCell (by simp) _⟩
    · have hk' : k = zs.length := by omega
      subst hk'
      have hfv := foldV_good hok
      rw [List.take_length] at hB1
      rw [← hfv] at hB1
      obtain ⟨N, hN⟩ : ∃ N, N = (foldV zs).1 := ⟨_, rfl⟩
      obtain ⟨P, hP⟩ : ∃ P, P = (foldV zs).2 := ⟨_, rfl⟩
      rw [← hN, ← hP] at hB1
      have HN := Lib.hid hN
      have HP := Lib.hid hP
      clear hN hP hfv hok
      have c0 := hB1.cell 0
      have c1 := hB1.cell 1
      have d0 := hB0.cell 0
      have d1 := hB0.cell 1
      have f0 := hB0.frozen 0
      have f1 := hB0.frozen 1
      simp at c0 c1 d0 d1
      go_wp2
      refine bodyPost_ret (v := .agg #[.int .i64 N, .int .i64 P]) ?_ rfl ?_
      · simp [results, Try.results12, go_sem, d0, d1]
      · rw [HN.out, HP.out]
        exact ⟨rfl, (hbel.setCell (by simp) _).setCell (by simp) _⟩
end Go.Proofs.Ytnaeabkknmoaeaa
