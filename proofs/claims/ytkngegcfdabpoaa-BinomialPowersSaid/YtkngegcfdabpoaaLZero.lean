/-
  binomial.zeros and Canonical on lists.
-/
import Derived.Test.YtkngegcfdabpoaaLList
import Derived.Test.YtkngegcfdabpoaaPolys
import Derived.Test.YtkngegcfdabpoaaPC
namespace Go.Proofs.Ytkngegcfdabpoaa
open Go.RowKit

theorem put3_eq (w : World) (g i : Nat) (x y z : Value) : ((w.setCell ⟨g, i, none⟩ x).setCell ⟨g, i + 1, none⟩ y).setCell ⟨g, i + 2, none⟩ z = put3 w g i x y z := rfl

set_option maxRecDepth 100000 in
set_option maxHeartbeats 1600000 in
theorem zeros_q (n : Nat) (hn : n ≤ 1000) {w : World} :
    Calls Try.prog 41 #[.int .i64 (n : Int)] w (RetO w (List.replicate n 0)) := by
  go_enter Try.func41, Try.ntmps41
  go_wp2_with (first
    | (with_reducible refine wpList_makeR rfl _ _ rfl .i64 .i64 (n : Int) (n : Int) n rfl rfl rfl rfl (by omega) ?_))
  intro w1 hB1 U1
  have HF1 := Lib.hid (FX.of_zeros (List.replicate n 0) hB1)
  have hlt := hB1.lt
  obtain ⟨g, hg⟩ : ∃ g, g = w.heap.size := ⟨_, rfl⟩
  have hge : w.heap.size ≤ g := by omega
  rw [← hg] at HF1 ⊢
  clear hB1 hlt hg
  go_wp2_with fail
  go_loopw [9] (fun iv wr => ∃ i : Nat, i ≤ n ∧ iv = .int .i64 i ∧ Hid (FX wr g (List.replicate n 0) n i) ∧ Up w wr) (fun iv _ => n - (intOf iv).toNat)
  case atStart => exact ⟨0, Nat.zero_le _, rfl, HF1, U1⟩
  case round =>
    obtain ⟨i, hi, rfl, HF, hU⟩ := hrel
    clear HF1 U1
    by_cases hlt : i < n
    · have t1 : decide ((i : Int) < (n : Int)) = true := by simp; omega
      have i1 : (0 : Int) ≤ i := by omega
      have i2 : (i : Int) < n := by omega
      have hr0 := Lib.hid (show (List.replicate n (0 : Rat)).getD i 0 = ((0 : Int) : Rat) by simp [hlt])
      go_wp2_with fail
      refine (fromInt_q 0 (by omega) (by omega)).mono ?_
      rintro e w5 ⟨v5, rfl, hQ5, U5⟩
      obtain ⟨s5, A5, n5, c5, B5, m5, d5, rfl⟩ := hQ5.shape
      have HQ5 := Lib.hid hQ5
      have F5 := HF.out.up U5
      obtain ⟨x1, x2, x3, x4, x5, x6, x7, k0, k1, k2⟩ := F5.at_ hlt
      have f0 := F5.frozen (i * 3)
      have f1 := F5.frozen (i * 3 + 1)
      have f2 := F5.frozen (i * 3 + 2)
      have HF5 := Lib.hid F5
      clear hQ5 F5
      go_wp2_with fail
      rw [put3_eq]
      have HF6 := Lib.hid (HF5.out.put hlt (by rw [hr0.out]; exact HQ5.out))
      go_roundw
      case rel => exact ⟨i + 1, by omega, by go_num, HF6, up_put (hU.trans U5) hge _ _ _ _⟩
      case measure => simp [intOf]; omega
    · have hin : n ≤ i := by omega
      have t1 : decide ((i : Int) < (n : Int)) = false := by simp; omega
      have HO := Lib.hid (HF.out.ox hin (by simp))
      have HN := Lib.hid (show (List.replicate n (0 : Rat)).length = n by simp)
      go_wp2_with fail
      go_ret
      exact ⟨g, by rw [HN.out]; rfl, hge, HO.out, hU⟩

theorem sgn_eq0 {q : Rat} (h : q = 0) : sgn q = 0 := by rw [h]; exact sgn_zero
theorem sgn_ne0 {q : Rat} (h : q ≠ 0) : sgn q = -1 ∨ sgn q = 1 := by
  rcases sgn_cases q with h1 | h1 | h1
  · exact .inl h1.2
  · exact absurd h1.1 h
  · exact .inr h1.2
theorem getD_eq {l : List Rat} {j : Nat} (h : j < l.length) : l.getD j 0 = l[j] := by simp [h]

set_option maxRecDepth 100000 in
set_option maxHeartbeats 3200000 in
theorem bCanonical_q {o : Option Nat} {A : Option Addr} {cap : Nat} {ps : List Rat} {B : Nat} {w : World} (h : RX o w A ps) (hB : ∀ q ∈ ps, XB o q B) (hB' : B ≤ 8589934590) (hl : ps.length ≤ 1000) :
    Calls Try.prog 29 #[.slice A ps.length cap] w (RetO w (cutL ps)) := by
  have HR := Lib.hid (h.iv hB)
  obtain ⟨L, hL⟩ : ∃ L, L = ps.length := ⟨_, rfl⟩
  have HL := Lib.hid hL
  rw [← hL] at hl ⊢
  clear h hB hL
  go_enter Try.func29, Try.ntmps29
  go_wp2_with fail
  go_loopw [3] (fun nv wr => ∃ n : Nat, n ≤ L ∧ nv = .int .i64 n ∧ Hid (∀ j, n ≤ j → j < ps.length → ps.getD j 0 = 0) ∧ Up w wr) (fun nv _ => (intOf nv).toNat)
  case atStart => exact ⟨L, Nat.le_refl _, rfl, Lib.hid (fun j h1 h2 => absurd h2 (by rw [← HL.out]; omega)), Up.refl _⟩
  case round =>
    obtain ⟨n, hn, rfl, HZ, hU⟩ := hrel
    by_cases hc : n = 0 ∨ ps.getD (n - 1) 0 ≠ 0
    · have HC : Hid (cutL ps = ps.take n) := Lib.hid (cutL_take (by rw [← HL.out]; exact hn) (fun j hj h1 => by have := HZ.out j h1 hj; rwa [getD_eq hj] at this)
        (by
          rcases hc with h | h
          · exact .inl h
          · by_cases h0 : n = 0
            · exact .inl h0
            · have hlt : n - 1 < ps.length := by have := HL.out; omega
              exact .inr ⟨hlt, by rwa [getD_eq hlt] at h⟩))
      have HLT : Hid ((cutL ps).length = n) := Lib.hid (by rw [HC.out, List.length_take]; have := HL.out; omega)
      have HG : Hid (∀ i, i < n → (cutL ps).getD i 0 = ps.getD i 0) := Lib.hid (fun i _ => cutL_getD ps i)
      clear HC HZ
      by_cases hn0 : n = 0
      case' pos =>
        clear hc
        have t0 : decide (0 < n) = false := by simp [hn0]
        clear hn0
        have hV := hU
        rename World => w5
        go_wp2_with (first
          | (with_reducible refine wpList_makeR rfl _ _ rfl .i64 .i64 (n : Int) (n : Int) n rfl rfl rfl rfl (by omega) ?_))
      case' neg =>
        have hq := hc.resolve_left hn0
        clear hc
        have t0 : decide (0 < n) = true := by simp; omega
        obtain ⟨b, off, s, X, n1, c, Y, m1, d, rfl, hb, hx, c0, c1, c2⟩ := (HR.out.up hU).at_ (k := n - 1) (by have := HL.out; omega)
        have HS := Lib.hid (sign_q hx (by omega))
        have j1 : (0 : Int) ≤ (n : Int) - 1 := by omega
        have j2 : (n : Int) - 1 < L := by omega
        have j3 : IntKind.i64.wrap ((n : Int) - 1) = (n : Int) - 1 := IntWalk.i64_in _ (by omega)
        have j4 : ((n : Int) - 1).toNat = n - 1 := by omega
        clear hx hn0
        have hs := sgn_ne0 hq
        obtain ⟨z, hz⟩ : ∃ z, z = sgn (ps.getD (n - 1) 0) := ⟨_, rfl⟩
        rw [← hz] at HS hs
        have t1 : (z == 0) = false := by simp; omega
        clear hz hs hq
        go_wp2_with fail
        refine HS.out.mono ?_
        rintro e w5 ⟨rfl, U5⟩
        have hV := hU.trans U5
        clear j1 j2 j3 j4 HS t0 hb c0 c1 c2
        go_wp2_with (first
          | (with_reducible refine wpList_makeR rfl _ _ rfl .i64 .i64 (n : Int) (n : Int) n rfl rfl rfl rfl (by omega) ?_))
      all_goals
        intro w6 hB6 U6
        have HF6 := Lib.hid (FX.of_zeros (cutL ps) hB6)
        have hsz := hV.size
        have hV6 := hV.trans U6
        obtain ⟨g, hg⟩ : ∃ g, g = w5.heap.size := ⟨_, rfl⟩
        have hge : w.heap.size ≤ g := by omega
        rw [← hg] at HF6 ⊢
        clear hB6 hg hsz
        go_wp2_with fail
        go_loopw [25] (fun iv wt => ∃ i : Nat, i ≤ n ∧ iv = .int .i64 i ∧ Hid (FX wt g (cutL ps) n i) ∧ Up w wt) (fun iv _ => n - (intOf iv).toNat)
        case atStart => exact ⟨0, Nat.zero_le _, rfl, HF6, hV6⟩
        case round =>
          obtain ⟨i, hi, rfl, HF, hUt⟩ := hrel
          clear HF6 hV6 hV
          by_cases hlt : i < n
          · have t1 : decide ((i : Int) < (n : Int)) = true := by simp; omega
            obtain ⟨b, off, s, X, n1, c, Y, m1, d, he, hb, hx, c0, c1, c2⟩ := (HR.out.up hUt).at_ (k := i) (by have := HL.out; omega)
            first | subst he | (injection he with he; injection he with he1 he2; subst he1 he2)
            have HS := Lib.hid (canonical_q hx (by omega))
            have i1 : (0 : Int) ≤ i := by omega
            have i2 : (i : Int) < n := by omega
            have i3 : (i : Int) < L := by omega
            clear hx
            go_wp2_with fail
            refine HS.out.mono ?_
            rintro e w7 ⟨v7, rfl, hQ7, U7⟩
            obtain ⟨s7, A7, n7, c7, B7, m7, d7, rfl⟩ := hQ7.shape
            have HQ7 := Lib.hid hQ7
            have F7 := HF.out.up U7
            obtain ⟨x1, x2, x3, x4, x5, x6, x7, k0, k1, k2⟩ := F7.at_ hlt
            have f0 := F7.frozen (i * 3)
            have f1 := F7.frozen (i * 3 + 1)
            have f2 := F7.frozen (i * 3 + 2)
            have HF7 := Lib.hid F7
            clear hQ7 F7
            go_wp2_with fail
            rw [put3_eq]
            have HF8 := Lib.hid (HF7.out.put hlt (by rw [HG.out i hlt]; exact HQ7.out))
            go_roundw
            case rel => exact ⟨i + 1, by omega, by go_num, HF8, up_put (hUt.trans U7) hge _ _ _ _⟩
            case measure => simp [intOf]; omega
          · have hin : n ≤ i := by omega
            have t1 : decide ((i : Int) < (n : Int)) = false := by simp; omega
            have HO := Lib.hid (HF.out.ox hin HLT.out)
            go_wp2_with fail
            go_ret
            exact ⟨g, by rw [HLT.out]; rfl, hge, HO.out, hUt⟩
    · have hc1 : n ≠ 0 := fun e => hc (.inl e)
      have hc2 : ps.getD (n - 1) 0 = 0 := Classical.byContradiction fun e => hc (.inr e)
      obtain ⟨m, rfl⟩ : ∃ m, n = m + 1 := ⟨n - 1, by omega⟩
      rw [Nat.add_sub_cancel] at hc2
      have HZ2 : Hid (∀ j, m ≤ j → j < ps.length → ps.getD j 0 = 0) := Lib.hid (fun j h1 h2 => by
        by_cases e : j = m
        · rw [e]; exact hc2
        · exact HZ.out j (by omega) h2)
      clear hc hc1 HZ
      have t0 : decide (0 < m + 1) = true := by simp
      obtain ⟨b, off, s, X, n1, c, Y, m1, d, rfl, hb, hx, c0, c1, c2⟩ := (HR.out.up hU).at_ (k := m) (by have := HL.out; omega)
      have HS := Lib.hid (sign_q hx (by omega))
      rw [sgn_eq0 hc2] at HS
      have j1 : (0 : Int) ≤ m := by omega
      have j2 : (m : Int) < L := by omega
      clear hx hc2
      go_wp2_with fail
      refine HS.out.mono ?_
      rintro e w5 ⟨rfl, U5⟩
      go_wp2_with fail
      go_roundw
      case rel => exact ⟨m, by omega, by go_num, HZ2, hU.trans U5⟩
      case measure => simp [intOf]
end Go.Proofs.Ytkngegcfdabpoaa
