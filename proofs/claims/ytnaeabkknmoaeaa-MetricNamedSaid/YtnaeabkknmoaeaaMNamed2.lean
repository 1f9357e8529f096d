/-
  The contracts of the named metrics that go by loops.
-/
import Derived.Test.YtnaeabkknmoaeaaMNamed1
namespace Go.Proofs.Ytnaeabkknmoaeaa
open Go.RowKit

def timeB : List Int := (List.range 26).map fun t => if t ≠ 20 ∧ t ≠ 24 ∧ t ≠ 25 then 1 else 0
def timeL (s : Nat) : List Int := (List.range 26).map fun t => if t < s ∧ t ≠ 20 ∧ t ≠ 24 ∧ t ≠ 25 then 1 else 0
theorem timeL_set : ∀ s, s < 26 → (s ≠ 20 ∧ s ≠ 24 ∧ s ≠ 25) → (timeL s).set s 1 = timeL (s + 1) := by decide

set_option maxHeartbeats 3200000 in
theorem time_any (w : World) : Calls Try.prog 25 #[] w (RetM w timeB zero26) := by
  go_enter Try.func25, Try.ntmps25
  go_wp2_with fail
  refine (zero_any _).mono ?_
  rintro e w1 ⟨g, h, rfl, h1, h2, h3, h4, h5, h6⟩
  have F0 := Fr.start h1 h2 h3 h4 h5 h6
  go_wp2_with fail
  obtain ⟨w2, hw2⟩ : ∃ w2, w2 = w1.alloc (Obj.cells #[.slice (some ⟨g, 0, none⟩) 26 26, .slice (some ⟨h, 0, none⟩) 26 26] 28) := ⟨_, rfl⟩
  obtain ⟨r, hr⟩ : ∃ r, r = w1.heap.size := ⟨_, rfl⟩
  obtain ⟨q, hq⟩ : ∃ r, r = w.heap.size := ⟨_, rfl⟩
  rw [← hw2, ← hr, ← hq] at F0 ⊢
  clear hw2 hr hq h1 h2 h3 h4 h5 h6
  go_loopw [4] (fun sv wr => ∃ s : Nat, s ≤ 26 ∧ sv = .int .i64 s ∧ Fr w wr q r g h (timeL s) zero26) (fun sv _ => 26 - (intOf sv).toNat)
  case atStart => exact ⟨0, by omega, rfl, F0⟩
  case round =>
    obtain ⟨s, hs, rfl, F⟩ := hrel
    clear F0
    obtain ⟨s0, s1⟩ := F.cells
    obtain ⟨d0, d1⟩ := duo F.bq
    have g0 := Blk.frozen F.bq 0
    have g1 := Blk.frozen F.bq 1
    by_cases h26 : s < 26
    · by_cases hh : s = 20 ∨ s = 24 ∨ s = 25
      · rcases hh with rfl | rfl | rfl
        · have HF := Lib.hid F
          clear F
          go_wp2_with fail
          go_roundw
          case rel => exact ⟨20 + 1, by omega, by go_num, (show timeL 20 = timeL (20 + 1) by decide) ▸ HF.out⟩
          case measure => simp [intOf]
        · have HF := Lib.hid F
          clear F
          go_wp2_with fail
          go_roundw
          case rel => exact ⟨24 + 1, by omega, by go_num, (show timeL 24 = timeL (24 + 1) by decide) ▸ HF.out⟩
          case measure => simp [intOf]
        · have HF := Lib.hid F
          clear F
          go_wp2_with fail
          go_roundw
          case rel => exact ⟨25 + 1, by omega, by go_num, (show timeL 25 = timeL (25 + 1) by decide) ▸ HF.out⟩
          case measure => simp [intOf]
      · have c0 := F.bg.cell (k := s) (by simp [timeL]; omega)
        obtain ⟨z, hz⟩ : ∃ z, z = (timeL s)[s]'(by simp [timeL]; omega) := ⟨_, rfl⟩
        rw [← hz] at c0
        have f0 := Blk.frozen F.bg s
        have F1 := F.setB s 1
        rw [timeL_set s h26 ⟨fun e => hh (Or.inl e), fun e => hh (Or.inr (Or.inl e)), fun e => hh (Or.inr (Or.inr e))⟩] at F1
        have HF := Lib.hid F1
        have ki1 : (0 : Int) ≤ s := by omega
        have ki2 : (s : Int) < 26 := by omega
        have e0 : ((s : Int) == 24) = false := by simp; omega
        have e1 : ((s : Int) == 25) = false := by simp; omega
        have e2 : ((s : Int) == 20) = false := by simp; omega
        clear F F1 hz hh
        go_wp2_with fail
        go_roundw
        case rel => exact ⟨s + 1, by omega, by go_num, HF.out⟩
        case measure => simp [intOf]; omega
    · obtain rfl : s = 26 := by omega
      have HF := Lib.hid F
      clear F
      go_wp2_with fail
      obtain ⟨c0, c1⟩ := HF.out.res
      refine bodyPost_ret (v := .agg #[.slice (some ⟨g, 0, none⟩) 26 26, .slice (some ⟨h, 0, none⟩) 26 26]) ?_ rfl HF.out.out
      simp [results, Try.results25, go_sem, c0, c1]

set_option maxHeartbeats 3200000 in
theorem refTime_any (w : World) : Calls Try.prog 32 #[] w (RetM w timeB zero26) := by
  go_enter Try.func32, Try.ntmps32
  go_wp2_with fail
  refine (refFree_any _).mono ?_
  rintro e w1 ⟨g, h, rfl, h1, h2, h3, h4, h5, h6⟩
  have F0 := Fr.start h1 h2 h3 h4 h5 h6
  go_wp2_with fail
  obtain ⟨w2, hw2⟩ : ∃ w2, w2 = w1.alloc (Obj.cells #[.slice (some ⟨g, 0, none⟩) 26 26, .slice (some ⟨h, 0, none⟩) 26 26] 28) := ⟨_, rfl⟩
  obtain ⟨r, hr⟩ : ∃ r, r = w1.heap.size := ⟨_, rfl⟩
  obtain ⟨q, hq⟩ : ∃ r, r = w.heap.size := ⟨_, rfl⟩
  rw [← hw2, ← hr, ← hq] at F0 ⊢
  clear hw2 hr hq h1 h2 h3 h4 h5 h6
  go_loopw [2] (fun sv wr => ∃ s : Nat, s ≤ 26 ∧ sv = .int .i64 s ∧ Fr w wr q r g h (timeL s) zero26) (fun sv _ => 26 - (intOf sv).toNat)
  case atStart => exact ⟨0, by omega, rfl, F0⟩
  case round =>
    obtain ⟨s, hs, rfl, F⟩ := hrel
    clear F0
    obtain ⟨s0, s1⟩ := F.cells
    obtain ⟨d0, d1⟩ := duo F.bq
    have g0 := Blk.frozen F.bq 0
    have g1 := Blk.frozen F.bq 1
    by_cases h26 : s < 26
    · by_cases hh : s = 20 ∨ s = 24 ∨ s = 25
      · rcases hh with rfl | rfl | rfl
        · have HF := Lib.hid F
          clear F
          go_wp2_with fail
          go_roundw
          case rel => exact ⟨20 + 1, by omega, by go_num, (show timeL 20 = timeL (20 + 1) by decide) ▸ HF.out⟩
          case measure => simp [intOf]
        · have HF := Lib.hid F
          clear F
          go_wp2_with fail
          go_roundw
          case rel => exact ⟨24 + 1, by omega, by go_num, (show timeL 24 = timeL (24 + 1) by decide) ▸ HF.out⟩
          case measure => simp [intOf]
        · have HF := Lib.hid F
          clear F
          go_wp2_with fail
          go_roundw
          case rel => exact ⟨25 + 1, by omega, by go_num, (show timeL 25 = timeL (25 + 1) by decide) ▸ HF.out⟩
          case measure => simp [intOf]
      · have c0 := F.bg.cell (k := s) (by simp [timeL]; omega)
        obtain ⟨z, hz⟩ : ∃ z, z = (timeL s)[s]'(by simp [timeL]; omega) := ⟨_, rfl⟩
        rw [← hz] at c0
        have f0 := Blk.frozen F.bg s
        have F1 := F.setB s 1
        rw [timeL_set s h26 ⟨fun e => hh (Or.inl e), fun e => hh (Or.inr (Or.inl e)), fun e => hh (Or.inr (Or.inr e))⟩] at F1
        have HF := Lib.hid F1
        have ki1 : (0 : Int) ≤ s := by omega
        have ki2 : (s : Int) < 26 := by omega
        have e0 : ((s : Int) != 24) = true := by simp; omega
        have e1 : ((s : Int) != 25) = true := by simp; omega
        have e2 : ((s : Int) != 20) = true := by simp; omega
        clear F F1 hz hh
        go_wp2_with fail
        go_roundw
        case rel => exact ⟨s + 1, by omega, by go_num, HF.out⟩
        case measure => simp [intOf]; omega
    · obtain rfl : s = 26 := by omega
      have HF := Lib.hid F
      clear F
      go_wp2_with fail
      obtain ⟨c0, c1⟩ := HF.out.res
      refine bodyPost_ret (v := .agg #[.slice (some ⟨g, 0, none⟩) 26 26, .slice (some ⟨h, 0, none⟩) 26 26]) ?_ rfl HF.out.out
      simp [results, Try.results32, go_sem, c0, c1]

end Go.Proofs.Ytnaeabkknmoaeaa
