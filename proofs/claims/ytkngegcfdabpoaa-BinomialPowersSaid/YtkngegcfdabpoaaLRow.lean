/-
  binomial.row and Product.
-/
import Derived.Test.YtkngegcfdabpoaaLZero
import Derived.Test.YtkngegcfdabpoaaLSize
import Derived.Test.YtkngegcfdabpoaaPD
namespace Go.Proofs.Ytkngegcfdabpoaa
open Go.RowKit

theorem map_set (m k : Nat) (f : Nat → Rat) (q : Rat) : ((List.range m).map f).set k q = (List.range m).map (fun j => if j = k then q else f j) := by
  apply List.ext_getElem
  · simp
  · intro i h1 h2
    simp only [List.getElem_set, List.getElem_map, List.getElem_range]
    by_cases e : k = i
    · rw [if_pos e, if_pos e.symm]
    · rw [if_neg e, if_neg (fun h => e h.symm)]
theorem zeros_map (m : Nat) : List.replicate m (0 : Rat) = (List.range m).map (fun _ => 0) := by
  apply List.ext_getElem <;> simp
theorem map_congr' {m : Nat} {f g : Nat → Rat} (h : ∀ i, i < m → f i = g i) : (List.range m).map f = (List.range m).map g := by
  apply List.map_congr_left
  intro i hi
  exact h i (by simpa using hi)
/-- row, filled up to k. -/
def rowL (a b k : Nat) : List Rat := (List.range (a + b + 1)).map (fun j => if j < k then pc a b j else 0)
theorem rowL_len (a b k : Nat) : (rowL a b k).length = a + b + 1 := by simp [rowL]
theorem rowL_start (a b : Nat) : List.replicate (a + b + 1) 0 = rowL a b (max a b) := by
  rw [zeros_map]
  refine map_congr' fun i _ => ?_
  by_cases h : i < max a b
  · rw [if_pos h, pc, if_neg (by omega)]
  · rw [if_neg h]
theorem rowL_step (a b k : Nat) : (rowL a b k).set k (pc a b k) = rowL a b (k + 1) := by
  unfold rowL
  rw [map_set]
  refine map_congr' fun i _ => ?_
  by_cases e : i = k
  · subst e; rw [if_pos rfl, if_pos (by omega)]
  · rw [if_neg e]
    by_cases h : i < k
    · rw [if_pos h, if_pos (by omega)]
    · rw [if_neg h, if_neg (by omega)]
def rowQ (a b : Nat) : List Rat := (List.range (a + b + 1)).map (pc a b)
theorem rowQ_len (a b : Nat) : (rowQ a b).length = a + b + 1 := by simp [rowQ]
theorem rowL_end (a b : Nat) : rowL a b (a + b + 1) = rowQ a b := map_congr' fun i hi => by rw [if_pos hi]
theorem row_val {a b k : Nat} (h1 : max a b ≤ k) (h2 : k ≤ a + b) : bc (k : Rat) a * bc (a : Rat) (k - b) = pc a b k := by rw [pc, if_pos ⟨h1, h2⟩]

set_option maxRecDepth 100000 in
set_option maxHeartbeats 3200000 in
theorem row_q (a b : Nat) (ha : a ≤ 40) (hb : b ≤ 40) {w : World} :
    Calls Try.prog 49 #[.int .i64 (a : Int), .int .i64 (b : Int)] w (RetO w (rowQ a b)) := by
  have HZ := zeros_q (a + b + 1) (by omega) (w := w)
  rw [show ((a + b + 1 : Nat) : Int) = (a : Int) + (b : Int) + 1 from by omega, rowL_start] at HZ
  have HZ := Lib.hid HZ
  have HV := Lib.hid (fun k (h1 : max a b ≤ k) (h2 : k ≤ a + b) => row_val h1 h2)
  by_cases hab : a < b
  case' pos => have t0 : decide (a < b) = true := by simpa using hab
  case' neg => have t0 : decide (a < b) = false := by simpa using hab
  all_goals
    go_enter Try.func49, Try.ntmps49
    go_wp2_with fail
    refine HZ.out.mono ?_
    rintro e w1 ⟨g, he, hg, hO, U1⟩
    rw [rowL_len] at he
    subst he
    have HO1 := Lib.hid hO
    clear HZ hO
    go_wp2_with fail
    go_loopw [6] (fun iv wr => ∃ k : Nat, a ≤ k ∧ b ≤ k ∧ k ≤ a + b + 1 ∧ iv = .int .i64 k ∧ Hid (OX none wr g (rowL a b k)) ∧ Up w wr) (fun iv _ => a + b + 1 - (intOf iv).toNat)
    case atStart => first | exact ⟨b, by omega, by omega, by omega, rfl, by rw [show max a b = b by omega] at HO1; exact HO1, U1⟩ | exact ⟨a, by omega, by omega, by omega, rfl, by rw [show max a b = a by omega] at HO1; exact HO1, U1⟩
    case round =>
      obtain ⟨k, hka, hkb, hk, rfl, HO, hU⟩ := hrel
      clear HO1 U1 t0 hab
      by_cases hlt : k ≤ a + b
      · have t1 : decide ((k : Int) ≤ (a : Int) + (b : Int)) = true := by simp; omega
        have hkl : k < (rowL a b k).length := by rw [rowL_len]; omega
        have HF1 := Lib.hid (fun (wx : World) => falling_q (w := wx) (k : Int) a (by omega) (by omega) (by omega))
        have HF2 := Lib.hid (fun (wx : World) => falling_q (w := wx) (a : Int) (k - b) (by omega) (by omega) (by omega))
        rw [show ((k - b : Nat) : Int) = (k : Int) - (b : Int) from by omega] at HF2
        have HQ := Lib.hid (HV.out k (by omega) hlt)
        have HB1 := Lib.hid (qs_bc (k : Int) (by omega) (by omega) a (by omega))
        have HB2 := Lib.hid (qs_bc (a : Int) (by omega) (by omega) (k - b) (by omega))
        simp only [Rat.intCast_natCast] at HF1 HF2 HB1 HB2
        have HKL := Lib.hid hkl
        have i1 : (0 : Int) ≤ k := by omega
        have i2 : (k : Int) < (a : Int) + (b : Int) + 1 := by omega
        clear hkl
        go_wp2_with fail
        refine (HF1.out wr).mono ?_
        rintro e w2 ⟨v2, rfl, hQ2, U2⟩
        obtain ⟨s2, A2, n2, c2, B2, m2, d2, rfl⟩ := hQ2.shape
        have HQ2 := Lib.hid hQ2
        clear hQ2
        go_wp2_with fail
        refine (HF2.out w2).mono ?_
        rintro e w3 ⟨v3, rfl, hQ3, U3⟩
        obtain ⟨s3, A3, n3, c3, B3, m3, d3, rfl⟩ := hQ3.shape
        have HM := Lib.hid (mul_q ((HQ2.out.up U3).iv HB1.out) (hQ3.iv HB2.out) (by omega))
        rw [HQ.out] at HM
        clear hQ3
        go_wp2_with fail
        refine HM.out.mono ?_
        rintro e w4 ⟨v4, rfl, hQ4, U4⟩
        obtain ⟨s4, A4, n4, c4, B4, m4, d4, rfl⟩ := hQ4.shape
        have HQ4 := Lib.hid hQ4
        have hU4 := U2.trans (U3.trans U4)
        have F5 := HO.out.up hU4
        obtain ⟨x1, x2, x3, x4, x5, x6, x7, _, k0, k1, k2⟩ := F5.at_ HKL.out
        have f0 := F5.frozen (k * 3)
        have f1 := F5.frozen (k * 3 + 1)
        have f2 := F5.frozen (k * 3 + 2)
        have HF5 := Lib.hid (F5.put (o := none) HKL.out (q := pc a b k) hQ4)
        clear hQ4 F5
        go_wp2_with fail
        rw [put3_eq]
        rw [rowL_step] at HF5
        go_roundw
        case rel => exact ⟨k + 1, by omega, by omega, by omega, by go_num, HF5, up_put (hU.trans hU4) hg _ _ _ _⟩
        case measure => simp [intOf]; omega
      · have t1 : decide ((k : Int) ≤ (a : Int) + (b : Int)) = false := by simp; omega
        have hk' : k = a + b + 1 := by omega
        rw [hk', rowL_end] at HO
        clear hk'
        go_wp2_with fail
        go_ret
        exact ⟨g, by rw [rowQ_len]; rfl, hg, HO.out, hU⟩
end Go.Proofs.Ytkngegcfdabpoaa
