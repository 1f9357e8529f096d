/-
  binomial.Product.
-/
import Derived.Test.YtiiebgfjdkkdeaaLRow
namespace Go.Proofs.Ytiiebgfjdkkdeaa
open Go.RowKit

def prodB (a b : Int) : Bool := decide (0 ≤ a ∧ a ≤ 16 ∧ 0 ≤ b ∧ b ≤ 16)
def prodV (a b : Int) : List Rat := if 0 ≤ a ∧ a ≤ 16 ∧ 0 ≤ b ∧ b ≤ 16 then rowQ a.toNat b.toNat else []
theorem prod_no {a b : Int} (h : ¬ (0 ≤ a ∧ a ≤ 16 ∧ 0 ≤ b ∧ b ≤ 16)) : prodV a b = [] ∧ prodB a b = false := by
  unfold prodV prodB; rw [if_neg h]; exact ⟨rfl, by simpa using h⟩
theorem prod_yes {a b : Nat} (h1 : a ≤ 16) (h2 : b ≤ 16) : prodV a b = rowQ a b ∧ prodB a b = true := by
  unfold prodV prodB; rw [if_pos (by omega)]; exact ⟨by simp, by simp; omega⟩

set_option maxRecDepth 100000 in
set_option maxHeartbeats 3200000 in
theorem product_q (a b : Int) {w : World} : Calls Try.prog 15 #[.int .i64 a, .int .i64 b] w (RetLB w (prodV a b) (prodB a b)) := by
  by_cases h : 0 ≤ a ∧ a ≤ 16 ∧ 0 ≤ b ∧ b ≤ 16
  · obtain ⟨h1, h2, h3, h4⟩ := h
    obtain ⟨a, rfl⟩ : ∃ m : Nat, a = (m : Int) := ⟨a.toNat, by omega⟩
    obtain ⟨b, rfl⟩ : ∃ m : Nat, b = (m : Int) := ⟨b.toNat, by omega⟩
    have HP := Lib.hid (prod_yes (a := a) (b := b) (by omega) (by omega))
    have t1 : decide ((a : Int) < 0) = false := by simp
    have t2 : decide ((16 : Int) < a) = false := by simp; omega
    have t3 : decide (16 < a) = false := by simp; omega
    have t4 : decide ((b : Int) < 0) = false := by simp
    have t5 : decide ((16 : Int) < b) = false := by simp; omega
    have t6 : decide (16 < b) = false := by simp; omega
    have HR := Lib.hid (row_q a b (by omega) (by omega) (w := w))
    go_enter Try.func15, Try.ntmps15
    go_wp2_with fail
    refine HR.out.mono ?_
    rintro e w1 ⟨g, rfl, hg, hO, U1⟩
    have HO := Lib.hid hO.rx
    have HN := Lib.hid (rowQ_len a b)
    clear hO
    go_wp2_with fail
    go_ret2
    exact ⟨some ⟨g, 0, none⟩, _, by rw [HP.out.1, HP.out.2]; rfl, by rw [HP.out.1]; exact Nat.le_refl _, by rw [HN.out]; omega, by rw [HP.out.1]; exact HO.out, U1⟩
  · have HP := Lib.hid (prod_no h)
    by_cases h1 : a < 0
    · have t1 : decide (a < 0) = true := by simpa using h1
      clear h
      go_enter Try.func15, Try.ntmps15
      go_wp2_with fail
      go_ret2
      exact ⟨none, 0, by rw [HP.out.1, HP.out.2]; rfl, by rw [HP.out.1]; exact Nat.le_refl _, by omega, by rw [HP.out.1]; exact RX.nil_, Up.refl _⟩
    by_cases h2 : 16 < a
    · have t1 : decide (a < 0) = false := by simpa using h1
      have t2 : decide (16 < a) = true := by simpa using h2
      clear h
      go_enter Try.func15, Try.ntmps15
      go_wp2_with fail
      go_ret2
      exact ⟨none, 0, by rw [HP.out.1, HP.out.2]; rfl, by rw [HP.out.1]; exact Nat.le_refl _, by omega, by rw [HP.out.1]; exact RX.nil_, Up.refl _⟩
    by_cases h3 : b < 0
    · have t1 : decide (a < 0) = false := by simpa using h1
      have t2 : decide (16 < a) = false := by simpa using h2
      have t3 : decide (b < 0) = true := by simpa using h3
      clear h
      go_enter Try.func15, Try.ntmps15
      go_wp2_with fail
      go_ret2
      exact ⟨none, 0, by rw [HP.out.1, HP.out.2]; rfl, by rw [HP.out.1]; exact Nat.le_refl _, by omega, by rw [HP.out.1]; exact RX.nil_, Up.refl _⟩
    have h4 : 16 < b := by omega
    have t1 : decide (a < 0) = false := by simpa using h1
    have t2 : decide (16 < a) = false := by simpa using h2
    have t3 : decide (b < 0) = false := by simpa using h3
    have t4 : decide (16 < b) = true := by simpa using h4
    clear h
    go_enter Try.func15, Try.ntmps15
    go_wp2_with fail
    go_ret2
    exact ⟨none, 0, by rw [HP.out.1, HP.out.2]; rfl, by rw [HP.out.1]; exact Nat.le_refl _, by omega, by rw [HP.out.1]; exact RX.nil_, Up.refl _⟩
end Go.Proofs.Ytiiebgfjdkkdeaa
