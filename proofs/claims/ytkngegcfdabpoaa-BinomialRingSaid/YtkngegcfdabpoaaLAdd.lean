/-
  binomial.Add.
-/
import Derived.Test.YtkngegcfdabpoaaLComb
import Derived.Test.YtkngegcfdabpoaaLAt
import Derived.Test.YtkngegcfdabpoaaPD
namespace Go.Proofs.Ytkngegcfdabpoaa
open Go.RowKit

/-- What Add answers. -/
def addB (ps rs : List Rat) : Bool := decide (ps.length ≤ 33 ∧ rs.length ≤ 33)
def addV (ps rs : List Rat) : List Rat := if ps.length ≤ 33 ∧ rs.length ≤ 33 then cutL (padd ps rs) else []
theorem add_no {ps rs : List Rat} (h : ¬ (ps.length ≤ 33 ∧ rs.length ≤ 33)) : addV ps rs = [] ∧ addB ps rs = false := by
  unfold addV addB; rw [if_neg h]; exact ⟨rfl, by simpa using h⟩
theorem add_yes {ps rs : List Rat} (h : ps.length ≤ 33 ∧ rs.length ≤ 33) : addV ps rs = cutL (padd ps rs) ∧ addB ps rs = true := by
  unfold addV addB; rw [if_pos h]; exact ⟨rfl, by simpa using h⟩
theorem padd_len (ps rs : List Rat) : (padd ps rs).length = max ps.length rs.length := by simp [padd]
theorem padd_mem {ps rs : List Rat} {B : Nat} (h1 : ∀ q ∈ ps, qs q ≤ B) (h2 : ∀ q ∈ rs, qs q ≤ B) (hB : 3 ≤ B) : ∀ q ∈ padd ps rs, qs q ≤ 2 * B + 1 := fun q hq => by
  simp only [padd, List.mem_map] at hq
  obtain ⟨i, _, rfl⟩ := hq
  have a1 := qs_add (ps.getD i 0) (rs.getD i 0)
  have a2 := qs_getD h1 hB i
  have a3 := qs_getD h2 hB i
  omega
set_option maxRecDepth 100000 in
set_option maxHeartbeats 3200000 in
theorem addL_q {o1 o2 : Option Nat} {A1 A2 : Option Addr} {c1 c2 : Nat} {ps rs : List Rat} {B : Nat} {w : World} (h1 : RX o1 w A1 ps) (h2 : RX o2 w A2 rs) (hB1 : ∀ q ∈ ps, XB o1 q B) (hB2 : ∀ q ∈ rs, XB o2 q B) (hB : 2 ≤ B) (hB' : B ≤ 2000000) (hl1 : ps.length ≤ 1000) (hl2 : rs.length ≤ 1000) :
    Calls Try.prog 22 #[.slice A1 ps.length c1, .slice A2 rs.length c2] w (RetLB w (addV ps rs) (addB ps rs)) := by
  have HNO := @add_no ps rs
  by_cases hyes : ps.length ≤ 33 ∧ rs.length ≤ 33
  · have HP := Lib.hid (add_yes hyes)
    have hq1 := h1.qs hB1
    have hq2 := h2.qs hB2
    have HM := Lib.hid (padd_mem hq1 hq2 (by omega))
    have HLN := Lib.hid (padd_len ps rs)
    have HC := Lib.hid (combine_q (c1 := c1) (c2 := c2) 36 #[] (fun x y => x + y) (h1.iv hB1) (h2.iv hB2) hl1 hl2 (enters_own Try.func36 (by kernel_rfl) rfl) (fun wx va vb i hi u ha hb => by
      rw [show #[va, vb] ++ #[] = #[va, vb] from by simp]
      exact add_q ha hb (by omega)))
    rw [show combL (fun x y => x + y) ps rs = padd ps rs from rfl] at HC
    obtain ⟨h33, h33'⟩ := hyes
    have t0 : decide (33 < ps.length) = false := by simp; omega
    have t0i : decide ((33 : Int) < (ps.length : Int)) = false := by simp; omega
    have t1 : decide (33 < rs.length) = false := by simp; omega
    have t1i : decide ((33 : Int) < (rs.length : Int)) = false := by simp; omega
    clear h1 h2 hB1 hB2 hq1 hq2 HNO
    go_enter Try.func22, Try.ntmps22
    go_wp2_with fail
    refine HC.out.mono ?_
    rintro e w3 ⟨g3, rfl, hg3, hO3, U3⟩
    have HCN := Lib.hid (bCanonical_q (B := 2 * (B + 1) + 1) (cap := (padd ps rs).length) hO3.rx HM.out (by omega) (by have := HLN.out; omega))
    clear hO3
    go_wp2_with fail
    refine HCN.out.mono ?_
    rintro e w4 ⟨g4, rfl, hg4, hO4, U4⟩
    have HO4 := Lib.hid hO4.rx
    have HCL := Lib.hid (cutL_len (padd ps rs))
    clear hO4
    go_wp2_with fail
    go_ret2
    exact ⟨_, _, by rw [HP.out.1, HP.out.2]; rfl, by rw [HP.out.1]; exact Nat.le_refl _, by have := HCL.out; have := HLN.out; omega, by rw [HP.out.1]; exact HO4.out, U3.trans U4⟩
  · have HP := Lib.hid (HNO hyes)
    by_cases h33 : 33 < ps.length
    · have t1 : decide (33 < ps.length) = true := by simp; omega
      have t1i : decide ((33 : Int) < (ps.length : Int)) = true := by simp; omega
      clear hyes h1 h2 hB1 hB2
      go_enter Try.func22, Try.ntmps22
      go_wp2_with fail
      go_ret2
      exact ⟨none, 0, by rw [HP.out.1, HP.out.2]; rfl, by rw [HP.out.1]; exact Nat.le_refl _, by omega, by rw [HP.out.1]; exact RX.nil_, Up.refl _⟩
    · have t0 : decide (33 < ps.length) = false := by simpa using h33
      have t0i : decide ((33 : Int) < (ps.length : Int)) = false := by simp; omega
      have t2 : decide (33 < rs.length) = true := by simp; omega
      have t2i : decide ((33 : Int) < (rs.length : Int)) = true := by simp; omega
      clear hyes h1 h2 hB1 hB2
      go_enter Try.func22, Try.ntmps22
      go_wp2_with fail
      go_ret2
      exact ⟨none, 0, by rw [HP.out.1, HP.out.2]; rfl, by rw [HP.out.1]; exact Nat.le_refl _, by omega, by rw [HP.out.1]; exact RX.nil_, Up.refl _⟩
end Go.Proofs.Ytkngegcfdabpoaa
