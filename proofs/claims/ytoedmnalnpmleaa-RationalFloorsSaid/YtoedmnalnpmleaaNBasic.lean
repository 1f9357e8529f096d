/-
  The contracts of rational.nat.isOne, rational.nat.word, rational.fromWord, rational.compare.
-/
import Derived.Test.YtoedmnalnpmleaaNTrim
namespace Go.Proofs.Ytoedmnalnpmleaa
open Go.RowKit

set_option maxHeartbeats 1600000 in
theorem isOne_any (A : Option Addr) (cap x : Nat) (w : World) (hr : NS w A x) (hl : ln x ≤ 17592186044416) :
    Calls Try.prog 32 #[.slice A (ln x) cap] w fun e w' => e = .returned (.bool (x == 1)) ∧ w = w' := by
  by_cases h1 : x = 1
  · subst h1
    have e : digs 1 = [1] := digs_small (by omega) (by omega)
    obtain ⟨ad, rfl, had, hcell⟩ := SI.nat (k := 0) hr (by rw [e]; simp)
    have e2 : ln 1 = 1 := by rw [ln, e]; rfl
    rw [e2]
    simp [e, Addr.add] at hcell
    clear e e2 hl
    go_enter Try.func32, Try.ntmps32
    go_wp2_with fail
    go_ret
    exact ⟨rfl, rfl⟩
  · have hx1 : (x == 1) = false := by simpa using h1
    by_cases hl1 : ln x = 1
    · have hne : x ≠ 0 := fun e => by rw [e, ln_zero] at hl1; cases hl1
      have hlt := lt_pow_ln x
      rw [hl1] at hlt
      have e : digs x = [x] := digs_small hne (by omega)
      obtain ⟨ad, rfl, had, hcell⟩ := SI.nat (k := 0) hr (by rw [e]; simp)
      rw [hl1]
      simp [e, Addr.add] at hcell
      have hb : ((x : Int) == 1) = false := by simp; omega
      have HX := Lib.hid hx1
      clear e hl1 hx1 h1 hne hl
      go_enter Try.func32, Try.ntmps32
      go_wp2_with fail
      go_ret
      rw [HX.out]
      exact ⟨rfl, rfl⟩
    · have hb : (((ln x : Nat) : Int) == 1) = false := by simp; omega
      have HX := Lib.hid hx1
      clear hx1 h1 hl1
      go_enter Try.func32, Try.ntmps32
      go_wp2_with fail
      go_ret
      rw [HX.out]
      exact ⟨rfl, rfl⟩

set_option maxHeartbeats 1600000 in
theorem fromWord_any (n : Nat) (w : World) (hn : n < 18446744073709551616) : Calls Try.prog 33 #[.int .u64 n] w (RetN w n) := by
  have hl3 : ln n ≤ 3 := ln_le.2 (by omega)
  go_enter Try.func33, Try.ntmps33
  go_wp2_with fail
  go_loopw [0, 3] (fun m v wr => ∃ (k : Nat) (xs : List Nat), m = .int .u64 k ∧ k ≤ n ∧ OI wr w.heap.size 36 .u32 v (zs xs) ∧ digs n = xs ++ digs k ∧ Up w wr) (fun m _ _ => (intOf m).toNat)
  case atStart => exact ⟨n, [], rfl, Nat.le_refl _, OI.nil_, rfl, Up.refl _⟩
  case round =>
    obtain ⟨k, xs, rfl, hkn, hO, hd, hU⟩ := hrel
    have hxl : xs.length ≤ 3 := by
      have : (xs ++ digs k).length ≤ 3 := by rw [← hd]; exact hl3
      rw [List.length_append] at this; omega
    have hus := hU.size
    have HO := Lib.hid hO
    by_cases hk : k = 0
    · subst hk
      rw [digs_zero, List.append_nil] at hd
      obtain ⟨A2, c2, hv2, hc2, hm2, sA2, hO2⟩ := HO.out.form
      rw [zs_length] at hv2 hc2
      rw [← hd] at sA2 hv2 hc2
      rw [show (digs n).length = ln n from rfl] at hv2 hc2
      have H2 := Lib.hid sA2
      have H3 := Lib.hid (And.intro hm2 hc2)
      rw [hv2]
      clear hd hO sA2 hO2 hm2 hc2
      go_wp2_with fail
      go_ret
      exact ⟨A2, c2, rfl, H3.out.2, by simpa [maxLen] using H3.out.1, H2.out, hU⟩
    · have hd2 := Lib.hid (digs_step hd hk)
      have hkp : (0 : Int) < k := by omega
      have hk64 : (k : Int) ≤ 18446744073709551615 := by omega
      clear hd hO hk
      go_wp2_with (first
        | (at_builtin; go_must (refine wpList_append_ints rfl (.tmp 8) (.tmp 12) 38 rfl w.heap.size 36 .u32 tabN u3 (zs xs) rfl (HO.out.alloc _) (wr.heap.size + 1) (some ⟨wr.heap.size, 0, none⟩) 1 [(k : Int) % 1000000000] rfl (by exact SI.blk _ (Blk.new wr 36 _) (by simp)) (by simp; omega) (by simp; omega) ?_; intro v2 w2 hA2)))
      go_roundw
      case rel =>
        refine ⟨k / 1000000000, xs ++ [k % 1000000000], by go_num, by omega, ?_, hd2.out, ?_⟩
        · rw [zs_one xs _ (z := (k : Int) % 1000000000) (by omega)]; exact hA2.own
        · exact hA2.below (hU.alloc hus _) (HO.out.alloc _) (by simp; omega)
      case measure => simp [intOf]; omega
end Go.Proofs.Ytoedmnalnpmleaa
