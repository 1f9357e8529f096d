/-
  The document's Differences.
-/
import Derived.Test.YtkngegcfdabpoaaLDiffP
namespace Go.Proofs.Ytkngegcfdabpoaa
open Go.RowKit

set_option maxRecDepth 100000 in
set_option maxHeartbeats 3200000 in
theorem rDiffs_q {o : Option Nat} {A : Option Addr} {cap : Nat} {ps : List Rat} {B : Nat} {w : World} (h : RX o w A ps) (hB : ∀ q ∈ ps, XB o q B) (hB' : B ≤ 20000000) (hl : ps.length ≤ 1000) (hc : A = none → cap = 0) :
    Calls Try.prog 11 #[.slice A ps.length cap] w (RetLB w (diffV ps) (diffB ps)) := by
  have HNO := @diff_no ps
  by_cases h33 : ps.length ≤ 33
  · have HP := Lib.hid (diff_yes h33)
    have HD := Lib.hid (differences_q (cap := cap) h hB hB' (by omega) hc)
    rw [← HP.out.1] at HD
    have t0 : decide (33 < ps.length) = false := by simp; omega
    have t0i : decide ((33 : Int) < (ps.length : Int)) = false := by simp; omega
    clear h hB hc h33 HNO
    go_enter Try.func11, Try.ntmps11
    go_wp2_with fail
    refine HD.out.mono ?_
    rintro e w1 ⟨A1, c1, rfl, h1, h2, h3, h4⟩
    have H9 := Lib.hid (And.intro h1 (And.intro h2 h3))
    clear h1 h2 h3
    go_wp2_with fail
    go_ret2
    exact ⟨A1, c1, by rw [HP.out.2]; rfl, H9.out.1, H9.out.2.1, H9.out.2.2, h4⟩
  · have HP := Lib.hid (HNO h33)
    have t0 : decide (33 < ps.length) = true := by simp; omega
    have t0i : decide ((33 : Int) < (ps.length : Int)) = true := by simp; omega
    clear h33 h hB
    go_enter Try.func11, Try.ntmps11
    go_wp2_with fail
    go_ret2
    exact ⟨none, 0, by rw [HP.out.1, HP.out.2]; rfl, by rw [HP.out.1]; exact Nat.le_refl _, by omega, by rw [HP.out.1]; exact RX.nil_, Up.refl _⟩
end Go.Proofs.Ytkngegcfdabpoaa
