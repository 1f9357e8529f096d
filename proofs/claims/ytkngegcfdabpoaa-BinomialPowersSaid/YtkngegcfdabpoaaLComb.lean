/-
  binomial.combine at rational numbers, whatever the function.
-/
import Derived.Test.YtkngegcfdabpoaaLZero
import Derived.Test.YtkngegcfdabpoaaLRow
namespace Go.Proofs.Ytkngegcfdabpoaa
open Go.RowKit

def combL (f : Rat → Rat → Rat) (ps rs : List Rat) : List Rat := (List.range (max ps.length rs.length)).map (fun i => f (ps.getD i 0) (rs.getD i 0))
theorem combL_len (f : Rat → Rat → Rat) (ps rs : List Rat) : (combL f ps rs).length = max ps.length rs.length := by simp [combL]
theorem combL_getD (f : Rat → Rat → Rat) (ps rs : List Rat) (i : Nat) (h : i < max ps.length rs.length) : (combL f ps rs).getD i 0 = f (ps.getD i 0) (rs.getD i 0) := by unfold combL; rw [range_getD, if_pos h]
theorem enters_own {P : Program} {f : FuncId} {fn : Func} {c : Code} (hf : P.funcs[f]? = some fn) (hname : (fn.name == "runtime.NumGoroutine") = false) (hb : fn.body = some c) : ∀ (args : Array Value) (w : World), (callFunc f args).run P w = .ok (.enter f args) w := by
  intro args w
  have h1 : fn.name ≠ "runtime.NumGoroutine" := by simpa using hname
  simp [callFunc, hf, h1, hb, mark]

set_option maxRecDepth 100000 in
set_option maxHeartbeats 6400000 in
theorem combine_q {A1 A2 : Option Addr} {c1 c2 : Nat} {ps rs : List Rat} {B : Nat} (k : Nat) (cap : Array Value) (f : Rat → Rat → Rat) {w : World} (h1 : RX (some B) w A1 ps) (h2 : RX (some B) w A2 rs) (hl1 : ps.length ≤ 1000) (hl2 : rs.length ≤ 1000)
    (hin : ∀ (args : Array Value) (wx : World), (callFunc k args).run Try.prog wx = .ok (.enter k args) wx)
    (HF : ∀ wx va vb i, i < max ps.length rs.length → Up w wx → IV wx va (ps.getD i 0) B → IV wx vb (rs.getD i 0) B → Calls Try.prog k (#[va, vb] ++ cap) wx (RetQ wx (f (ps.getD i 0) (rs.getD i 0)))) :
    Calls Try.prog 31 #[.slice A1 ps.length c1, .slice A2 rs.length c2, .func (.func k) #[] cap] w (RetO w (combL f ps rs)) := by
  have HR1 := Lib.hid h1
  have HR2 := Lib.hid h2
  have HFF := Lib.hid HF
  have hnl := combL_len f ps rs
  obtain ⟨L1, hL1⟩ : ∃ L, L = ps.length := ⟨_, rfl⟩
  obtain ⟨L2, hL2⟩ : ∃ L, L = rs.length := ⟨_, rfl⟩
  have HL1 := Lib.hid hL1
  have HL2 := Lib.hid hL2
  rw [← hL1] at hl1 hnl ⊢
  rw [← hL2] at hl2 hnl ⊢
  clear h1 h2 HF hL1 hL2
  by_cases hab : L1 < L2
  · have t0 : decide (L1 < L2) = true := by simpa using hab
    have HNL := Lib.hid (show (combL f ps rs).length = L2 by omega)
    clear hnl
    go_enter Try.func31, Try.ntmps31
    go_wp2_with (first
      | (with_reducible refine wpList_makeR rfl _ _ rfl .i64 .i64 (L2 : Int) (L2 : Int) L2 rfl rfl rfl rfl (by omega) ?_))
    intro w1 hB1 U1
    have HF1 := Lib.hid (FX.of_zeros (combL f ps rs) hB1)
    have hlt := hB1.lt
    obtain ⟨g, hg⟩ : ∃ g, g = w.heap.size := ⟨_, rfl⟩
    have hge : w.heap.size ≤ g := by omega
    rw [← hg] at HF1 ⊢
    clear hB1 hlt hg
    go_wp2_with fail
    go_loopw [19] (fun iv wr => ∃ i : Nat, i ≤ L2 ∧ iv = .int .i64 i ∧ Hid (FX wr g (combL f ps rs) L2 i) ∧ Up w wr) (fun iv _ => L2 - (intOf iv).toNat)
    case atStart => exact ⟨0, Nat.zero_le _, rfl, HF1, U1⟩
    case round =>
      obtain ⟨i, hi, rfl, HF, hU⟩ := hrel
      clear HF1 U1
      by_cases hlt : i < L2
      · have t1 : decide ((i : Int) < (L2 : Int)) = true := by simp; omega
        have i1 : (0 : Int) ≤ i := by omega
        have i2 : (i : Int) < L2 := by omega
        have lg := HF.out.lt
        have HGD := Lib.hid (combL_getD f ps rs i (by have := HL1.out; have := HL2.out; omega))
        have HIM := Lib.hid (show i < max ps.length rs.length by have := HL1.out; have := HL2.out; omega)
        by_cases q1 : i < L1 <;> by_cases q2 : i < L2
        · obtain ⟨b1, o1, s1, X1, a1, d1, Y1, m1, e1, rfl, hb1, hx1, p0, p1, p2⟩ := (HR1.out.up hU).at_ (k := i) (by have := HL1.out; omega)
          have u1 : decide ((i : Int) < (L1 : Int)) = true := by simp; omega
          have u2 : decide (i < L1) = true := by simp; omega
          have j1 : (i : Int) < L1 := by omega
          obtain ⟨b2, o2, s2, X2, a2, d2, Y2, m2, e2, rfl, hb2, hx2, r0, r1, r2⟩ := (HR2.out.up hU).at_ (k := i) (by have := HL2.out; omega)
          have v1 : decide ((i : Int) < (L2 : Int)) = true := by simp; omega
          have v2 : decide (i < L2) = true := by simp; omega
          have j2 : (i : Int) < L2 := by omega
          have HC := Lib.hid (fun wx (u : Up wr wx) => HFF.out wx _ _ i HIM.out (hU.trans u) (IV.up hx1 u) (IV.up hx2 u))
          have UU : Up wr ((wr.alloc (Obj.cells #[.bool s1, .slice X1 a1 d1, .slice Y1 m1 e1] 31)).alloc (Obj.cells #[.bool s2, .slice X2 a2 d2, .slice Y2 m2 e2] 31)) := Below.alloc (Below.alloc (Up.refl _) (Nat.le_refl _) _) (by simp) _
          clear hx1 hx2 q1 q2
          go_wp2_with fail
          refine (HC.out _ UU).mono ?_
          rintro e w5 ⟨v5, rfl, hQ5, U5⟩
          obtain ⟨s5, A5, n5, c5, B5, m5, d5, rfl⟩ := hQ5.shape
          rw [← HGD.out] at hQ5
          have HQ5 := Lib.hid hQ5
          have V5 : Up wr w5 := UU.trans U5
          have F5 := HF.out.up V5
          obtain ⟨x1, x2, x3, x4, x5, x6, x7, k0, k1, k2⟩ := F5.at_ hlt
          have f0 := F5.frozen (i * 3)
          have f1 := F5.frozen (i * 3 + 1)
          have f2 := F5.frozen (i * 3 + 2)
          have HF5 := Lib.hid F5
          clear hQ5 F5
          go_wp2_with fail
          rw [put3_eq]
          have HF6 := Lib.hid (HF5.out.put hlt HQ5.out)
          go_roundw
          case rel => exact ⟨i + 1, by omega, by go_num, HF6, up_put (hU.trans V5) hge _ _ _ _⟩
          case measure => simp [intOf]; omega
        · exact absurd hlt (by omega)
        · have hx1 : IV wr (.agg #[.bool false, .slice none 0 0, .slice none 0 0]) (ps.getD i 0) B := by rw [getD_len (by have := HL1.out; omega)]; exact zeroR_iv wr B
          have u1 : decide ((i : Int) < (L1 : Int)) = false := by simp; omega
          have u2 : decide (i < L1) = false := by simp; omega
          obtain ⟨b2, o2, s2, X2, a2, d2, Y2, m2, e2, rfl, hb2, hx2, r0, r1, r2⟩ := (HR2.out.up hU).at_ (k := i) (by have := HL2.out; omega)
          have v1 : decide ((i : Int) < (L2 : Int)) = true := by simp; omega
          have v2 : decide (i < L2) = true := by simp; omega
          have j2 : (i : Int) < L2 := by omega
          have HC := Lib.hid (fun wx (u : Up wr wx) => HFF.out wx _ _ i HIM.out (hU.trans u) (IV.up hx1 u) (IV.up hx2 u))
          have UU : Up wr ((wr.alloc (Obj.cells #[.bool false, .slice none 0 0, .slice none 0 0] 31)).alloc (Obj.cells #[.bool s2, .slice X2 a2 d2, .slice Y2 m2 e2] 31)) := Below.alloc (Below.alloc (Up.refl _) (Nat.le_refl _) _) (by simp) _
          clear hx1 hx2 q1 q2
          go_wp2_with fail
          refine (HC.out _ UU).mono ?_
          rintro e w5 ⟨v5, rfl, hQ5, U5⟩
          obtain ⟨s5, A5, n5, c5, B5, m5, d5, rfl⟩ := hQ5.shape
          rw [← HGD.out] at hQ5
          have HQ5 := Lib.hid hQ5
          have V5 : Up wr w5 := UU.trans U5
          have F5 := HF.out.up V5
          obtain ⟨x1, x2, x3, x4, x5, x6, x7, k0, k1, k2⟩ := F5.at_ hlt
          have f0 := F5.frozen (i * 3)
          have f1 := F5.frozen (i * 3 + 1)
          have f2 := F5.frozen (i * 3 + 2)
          have HF5 := Lib.hid F5
          clear hQ5 F5
          go_wp2_with fail
          rw [put3_eq]
          have HF6 := Lib.hid (HF5.out.put hlt HQ5.out)
          go_roundw
          case rel => exact ⟨i + 1, by omega, by go_num, HF6, up_put (hU.trans V5) hge _ _ _ _⟩
          case measure => simp [intOf]; omega
        · exact absurd hlt (by omega)
      · have hin : L2 ≤ i := by omega
        have t1 : decide ((i : Int) < (L2 : Int)) = false := by simp; omega
        have HO := Lib.hid (HF.out.ox hin HNL.out)
        go_wp2_with fail
        go_ret
        exact ⟨g, by rw [HNL.out]; rfl, hge, HO.out, hU⟩
  · have t0 : decide (L1 < L2) = false := by simpa using hab
    have HNL := Lib.hid (show (combL f ps rs).length = L1 by omega)
    clear hnl
    go_enter Try.func31, Try.ntmps31
    go_wp2_with (first
      | (with_reducible refine wpList_makeR rfl _ _ rfl .i64 .i64 (L1 : Int) (L1 : Int) L1 rfl rfl rfl rfl (by omega) ?_))
    intro w1 hB1 U1
    have HF1 := Lib.hid (FX.of_zeros (combL f ps rs) hB1)
    have hlt := hB1.lt
    obtain ⟨g, hg⟩ : ∃ g, g = w.heap.size := ⟨_, rfl⟩
    have hge : w.heap.size ≤ g := by omega
    rw [← hg] at HF1 ⊢
    clear hB1 hlt hg
    go_wp2_with fail
    go_loopw [19] (fun iv wr => ∃ i : Nat, i ≤ L1 ∧ iv = .int .i64 i ∧ Hid (FX wr g (combL f ps rs) L1 i) ∧ Up w wr) (fun iv _ => L1 - (intOf iv).toNat)
    case atStart => exact ⟨0, Nat.zero_le _, rfl, HF1, U1⟩
    case round =>
      obtain ⟨i, hi, rfl, HF, hU⟩ := hrel
      clear HF1 U1
      by_cases hlt : i < L1
      · have t1 : decide ((i : Int) < (L1 : Int)) = true := by simp; omega
        have i1 : (0 : Int) ≤ i := by omega
        have i2 : (i : Int) < L1 := by omega
        have lg := HF.out.lt
        have HGD := Lib.hid (combL_getD f ps rs i (by have := HL1.out; have := HL2.out; omega))
        have HIM := Lib.hid (show i < max ps.length rs.length by have := HL1.out; have := HL2.out; omega)
        by_cases q1 : i < L1 <;> by_cases q2 : i < L2
        · obtain ⟨b1, o1, s1, X1, a1, d1, Y1, m1, e1, rfl, hb1, hx1, p0, p1, p2⟩ := (HR1.out.up hU).at_ (k := i) (by have := HL1.out; omega)
          have u1 : decide ((i : Int) < (L1 : Int)) = true := by simp; omega
          have u2 : decide (i < L1) = true := by simp; omega
          have j1 : (i : Int) < L1 := by omega
          obtain ⟨b2, o2, s2, X2, a2, d2, Y2, m2, e2, rfl, hb2, hx2, r0, r1, r2⟩ := (HR2.out.up hU).at_ (k := i) (by have := HL2.out; omega)
          have v1 : decide ((i : Int) < (L2 : Int)) = true := by simp; omega
          have v2 : decide (i < L2) = true := by simp; omega
          have j2 : (i : Int) < L2 := by omega
          have HC := Lib.hid (fun wx (u : Up wr wx) => HFF.out wx _ _ i HIM.out (hU.trans u) (IV.up hx1 u) (IV.up hx2 u))
          have UU : Up wr ((wr.alloc (Obj.cells #[.bool s1, .slice X1 a1 d1, .slice Y1 m1 e1] 31)).alloc (Obj.cells #[.bool s2, .slice X2 a2 d2, .slice Y2 m2 e2] 31)) := Below.alloc (Below.alloc (Up.refl _) (Nat.le_refl _) _) (by simp) _
          clear hx1 hx2 q1 q2
          go_wp2_with fail
          refine (HC.out _ UU).mono ?_
          rintro e w5 ⟨v5, rfl, hQ5, U5⟩
          obtain ⟨s5, A5, n5, c5, B5, m5, d5, rfl⟩ := hQ5.shape
          rw [← HGD.out] at hQ5
          have HQ5 := Lib.hid hQ5
          have V5 : Up wr w5 := UU.trans U5
          have F5 := HF.out.up V5
          obtain ⟨x1, x2, x3, x4, x5, x6, x7, k0, k1, k2⟩ := F5.at_ hlt
          have f0 := F5.frozen (i * 3)
          have f1 := F5.frozen (i * 3 + 1)
          have f2 := F5.frozen (i * 3 + 2)
          have HF5 := Lib.hid F5
          clear hQ5 F5
          go_wp2_with fail
          rw [put3_eq]
          have HF6 := Lib.hid (HF5.out.put hlt HQ5.out)
          go_roundw
          case rel => exact ⟨i + 1, by omega, by go_num, HF6, up_put (hU.trans V5) hge _ _ _ _⟩
          case measure => simp [intOf]; omega
        · obtain ⟨b1, o1, s1, X1, a1, d1, Y1, m1, e1, rfl, hb1, hx1, p0, p1, p2⟩ := (HR1.out.up hU).at_ (k := i) (by have := HL1.out; omega)
          have u1 : decide ((i : Int) < (L1 : Int)) = true := by simp; omega
          have u2 : decide (i < L1) = true := by simp; omega
          have j1 : (i : Int) < L1 := by omega
          have hx2 : IV wr (.agg #[.bool false, .slice none 0 0, .slice none 0 0]) (rs.getD i 0) B := by rw [getD_len (by have := HL2.out; omega)]; exact zeroR_iv wr B
          have v1 : decide ((i : Int) < (L2 : Int)) = false := by simp; omega
          have v2 : decide (i < L2) = false := by simp; omega
          have HC := Lib.hid (fun wx (u : Up wr wx) => HFF.out wx _ _ i HIM.out (hU.trans u) (IV.up hx1 u) (IV.up hx2 u))
          have UU : Up wr ((wr.alloc (Obj.cells #[.bool s1, .slice X1 a1 d1, .slice Y1 m1 e1] 31)).alloc (Obj.cells #[.bool false, .slice none 0 0, .slice none 0 0] 31)) := Below.alloc (Below.alloc (Up.refl _) (Nat.le_refl _) _) (by simp) _
          clear hx1 hx2 q1 q2
          go_wp2_with fail
          refine (HC.out _ UU).mono ?_
          rintro e w5 ⟨v5, rfl, hQ5, U5⟩
          obtain ⟨s5, A5, n5, c5, B5, m5, d5, rfl⟩ := hQ5.shape
          rw [← HGD.out] at hQ5
          have HQ5 := Lib.hid hQ5
          have V5 : Up wr w5 := UU.trans U5
          have F5 := HF.out.up V5
          obtain ⟨x1, x2, x3, x4, x5, x6, x7, k0, k1, k2⟩ := F5.at_ hlt
          have f0 := F5.frozen (i * 3)
          have f1 := F5.frozen (i * 3 + 1)
          have f2 := F5.frozen (i * 3 + 2)
          have HF5 := Lib.hid F5
          clear hQ5 F5
          go_wp2_with fail
          rw [put3_eq]
          have HF6 := Lib.hid (HF5.out.put hlt HQ5.out)
          go_roundw
          case rel => exact ⟨i + 1, by omega, by go_num, HF6, up_put (hU.trans V5) hge _ _ _ _⟩
          case measure => simp [intOf]; omega
        · exact absurd hlt (by omega)
        · exact absurd hlt (by omega)
      · have hin : L1 ≤ i := by omega
        have t1 : decide ((i : Int) < (L1 : Int)) = false := by simp; omega
        have HO := Lib.hid (HF.out.ox hin HNL.out)
        go_wp2_with fail
        go_ret
        exact ⟨g, by rw [HNL.out]; rfl, hge, HO.out, hU⟩
end Go.Proofs.Ytkngegcfdabpoaa
