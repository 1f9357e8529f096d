/-
  The document's Canonical on lists.
-/
import Derived.Test.YtkngegcfdabpoaaLZero
import Derived.Test.YtkngegcfdabpoaaLApp
import Derived.Test.YtkngegcfdabpoaaPF
namespace Go.Proofs.Ytkngegcfdabpoaa
open Go.RowKit

set_option maxRecDepth 100000 in
set_option maxHeartbeats 3200000 in
theorem rCanon_q {o : Option Nat} {A : Option Addr} {cap : Nat} {ps : List Rat} {B : Nat} {w : World} (h : RX o w A ps) (hB : ∀ q ∈ ps, XB o q B) (hB' : B ≤ 8589934590) (hl : ps.length ≤ 1000) :
    Calls Try.prog 47 #[.slice A ps.length cap] w (RetL w (cutL ps)) := by
  have HR := Lib.hid (h.iv hB)
  obtain ⟨L, hL⟩ : ∃ L, L = ps.length := ⟨_, rfl⟩
  have HL := Lib.hid hL
  rw [← hL] at hl ⊢
  clear h hB hL
  go_enter Try.func47, Try.ntmps47
  go_wp2_with fail
  go_loopw [3] (fun nv wr => ∃ n : Nat, n ≤ L ∧ nv = .int .i64 n ∧ Hid (∀ j, n ≤ j → j < ps.length → ps.getD j 0 = 0) ∧ Up w wr) (fun nv _ => (intOf nv).toNat)
  case atStart => exact ⟨L, Nat.le_refl _, rfl, Lib.hid (fun j h1 h2 => absurd h2 (by rw [← HL.out]; omega)), Up.refl _⟩
  case round =>
    obtain ⟨n, hn, rfl, HZ, hU⟩ := hrel
    by_cases hc : n = 0 ∨ ps.getD (n - 1) 0 ≠ 0
    · have HC : Hid (cutL ps = ps.take n) := Lib.hid (cutL_take (by rw [← HL.out]; exact hn) (fun j hj h1 => by have := HZ.out j h1 hj; rwa [getD_eq hj] at this)
        (by
          rcases hc with h | h
          · exact .inl h
          · by_cases h0 : n = 0
            · exact .inl h0
            · have hlt : n - 1 < ps.length := by have := HL.out; omega
              exact .inr ⟨hlt, by rwa [getD_eq hlt] at h⟩))
      have HLT : Hid ((cutL ps).length = n) := Lib.hid (by rw [HC.out, List.length_take]; have := HL.out; omega)
      have HG : Hid (∀ i, i < n → (cutL ps).getD i 0 = ps.getD i 0) := Lib.hid (fun i _ => cutL_getD ps i)
      clear HC HZ
      by_cases hn0 : n = 0
      case' pos =>
        clear hc
        have t0 : decide (0 < n) = false := by simp [hn0]
        clear hn0
        have hV := hU
        rename World => w5
        go_wp2_with fail
      case' neg =>
        have hq := hc.resolve_left hn0
        clear hc
        have t0 : decide (0 < n) = true := by simp; omega
        obtain ⟨b, off, s, X, n1, c, Y, m1, d, rfl, hb, hx, c0, c1, c2⟩ := (HR.out.up hU).at_ (k := n - 1) (by have := HL.out; omega)
        have HS := Lib.hid (rSign_q hx (by omega))
        have j1 : (0 : Int) ≤ (n : Int) - 1 := by omega
        have j2 : (n : Int) - 1 < L := by omega
        have j3 : IntKind.i64.wrap ((n : Int) - 1) = (n : Int) - 1 := IntWalk.i64_in _ (by omega)
        have j4 : ((n : Int) - 1).toNat = n - 1 := by omega
        clear hx hn0
        have hs := sgn_ne0 hq
        obtain ⟨z, hz⟩ : ∃ z, z = sgn (ps.getD (n - 1) 0) := ⟨_, rfl⟩
        rw [← hz] at HS hs
        have t1 : (z == 0) = false := by simp; omega
        clear hz hs hq
        go_wp2_with fail
        refine HS.out.mono ?_
        rintro e w5 ⟨rfl, U5⟩
        have hV := hU.trans U5
        clear j1 j2 j3 j4 HS t0 hb c0 c1 c2
        go_wp2_with fail
      all_goals
        go_loopw [4, 5] (fun v iv wt => ∃ i : Nat, i ≤ n ∧ iv = .int .i64 i ∧ Hid (AX none wt w.heap.size v ((cutL ps).take i)) ∧ Up w wt) (fun _ iv _ => n - (intOf iv).toNat)
        case atStart => exact ⟨0, Nat.zero_le _, rfl, Lib.hid AX.nil_, hV⟩
        case round =>
          obtain ⟨i, hi, rfl, HA, hUt⟩ := hrel
          clear hV
          by_cases hlt : i < n
          · have t1 : decide ((i : Int) < (n : Int)) = true := by simp; omega
            have t2 : decide (i < n) = true := by simp; omega
            obtain ⟨b, off, s, X, n1, c, Y, m1, d, he, hb, hx, c0, c1, c2⟩ := (HR.out.up hUt).at_ (k := i) (by have := HL.out; omega)
            first | subst he | (injection he with he; injection he with he1 he2; subst he1 he2)
            have HS := Lib.hid (rCanonical_q hx (by omega))
            rw [← HG.out i hlt] at HS
            obtain ⟨q, hq⟩ : ∃ q, q = (cutL ps).getD i 0 := ⟨_, rfl⟩
            rw [← hq] at HS
            have HT := Lib.hid (show (cutL ps).take (i + 1) = (cutL ps).take i ++ [q] by
              have hil : i < (cutL ps).length := by rw [HLT.out]; exact hlt
              rw [List.take_succ_eq_append_getElem hil, hq, getD_eq hil])
            have HLN := Lib.hid (show ((cutL ps).take i).length + [q].length ≤ 1000000 by simp; omega)
            clear hq
            have i1 : (0 : Int) ≤ i := by omega
            have i2 : (i : Int) < n := by omega
            have i3 : (i : Int) < L := by omega
            clear hx
            go_wp2_with fail
            refine HS.out.mono ?_
            rintro e w7 ⟨v7, rfl, hQ7, U7⟩
            obtain ⟨s7, A7, n7, c7, B7, m7, d7, rfl⟩ := hQ7.shape
            have U8 : Up w7 (w7.alloc (Obj.cells #[.bool s7, .slice A7 n7 c7, .slice B7 m7 d7] 31)) := Below.alloc (Up.refl _) (Nat.le_refl _) _
            have HA8 := Lib.hid (HA.out.up (U7.trans U8))
            have HR8 := Lib.hid (RX.one (m := none) (Blk.new w7 31 #[.bool s7, .slice A7 n7 c7, .slice B7 m7 d7]) (hQ7.up U8))
            have hV8 := hUt.trans (U7.trans U8)
            have hsz := hV8.size
            clear hQ7 U8
            go_wp2_with (first
              | (at_builtin; refine wpList_append_rats rfl _ _ rfl rfl HA8.out rfl rfl HR8.out (fun h => by cases h) HLN.out hsz ?_))
            intro v9 w9 hA9
            have hV9 := hA9.below hV8 HA8.out hsz
            have HA9 := hA9.own
            rw [← HT.out] at HA9
            have HA9 := Lib.hid HA9
            clear hA9 hsz hV8
            go_wp2_with fail
            go_roundw
            case rel => exact ⟨i + 1, by omega, by go_num, HA9, hV9⟩
            case measure => simp [intOf]; omega
          · have hin : n ≤ i := by omega
            have t1 : decide ((i : Int) < (n : Int)) = false := by simp; omega
            have t2 : decide (i < n) = false := by simp; omega
            have hA := HA.out
            rw [List.take_of_length_le (by rw [HLT.out]; exact hin)] at hA
            obtain ⟨A9, c9, rfl, h1, h2, h3⟩ := hA.rx
            have H9 := Lib.hid (And.intro h1 (And.intro h2 h3))
            clear hA h1 h2 h3 HA
            go_wp2_with fail
            go_ret
            exact ⟨A9, c9, rfl, H9.out.1, H9.out.2.1, H9.out.2.2, hUt⟩
    · have hc1 : n ≠ 0 := fun e => hc (.inl e)
      have hc2 : ps.getD (n - 1) 0 = 0 := Classical.byContradiction fun e => hc (.inr e)
      obtain ⟨m, rfl⟩ : ∃ m, n = m + 1 := ⟨n - 1, by omega⟩
      rw [Nat.add_sub_cancel] at hc2
      have HZ2 : Hid (∀ j, m ≤ j → j < ps.length → ps.getD j 0 = 0) := Lib.hid (fun j h1 h2 => by
        by_cases e : j = m
        · rw [e]; exact hc2
        · exact HZ.out j (by omega) h2)
      clear hc hc1 HZ
      have t0 : decide (0 < m + 1) = true := by simp
      obtain ⟨b, off, s, X, n1, c, Y, m1, d, rfl, hb, hx, c0, c1, c2⟩ := (HR.out.up hU).at_ (k := m) (by have := HL.out; omega)
      have HS := Lib.hid (rSign_q hx (by omega))
      rw [sgn_eq0 hc2] at HS
      have j1 : (0 : Int) ≤ m := by omega
      have j2 : (m : Int) < L := by omega
      clear hx hc2
      go_wp2_with fail
      refine HS.out.mono ?_
      rintro e w5 ⟨rfl, U5⟩
      go_wp2_with fail
      go_roundw
      case rel => exact ⟨m, by omega, by go_num, HZ2, hU.trans U5⟩
      case measure => simp [intOf]
end Go.Proofs.Ytkngegcfdabpoaa
