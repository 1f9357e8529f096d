/-
  Lists of rational numbers in memory; the guard over them.
-/
import Derived.Test.YtkngegcfdabpoaaPD
namespace Go.Proofs.Ytkngegcfdabpoaa
open Go.RowKit

/-- A rational number's three cells, at p. -/
def At3 (w : World) (b o : Nat) (v : Value) : Prop :=
  ∃ s X n c Y m d, v = .agg #[.bool s, .slice X n c, .slice Y m d] ∧ w.cell? ⟨b, o, none⟩ = some (.bool s) ∧ w.cell? ⟨b, o + 1, none⟩ = some (.slice X n c) ∧ w.cell? ⟨b, o + 2, none⟩ = some (.slice Y m d)
/-- A slice of such. -/
def EL (w : World) (B : Nat) (A : Option Addr) (vs : List Value) : Prop :=
  0 < vs.length → ∃ b o, A = some ⟨b, o, none⟩ ∧ b < B ∧ ∀ j (hj : j < vs.length), At3 w b (o + j * 3) vs[j]
def smallV : Value → Bool
  | .agg #[_, .slice _ n _, .slice _ m _] => decide (n ≤ 8) && decide (m ≤ 8)
  | _ => false
section
variable {w w' : World} {b o B B' : Nat} {v : Value} {A : Option Addr} {vs : List Value}
theorem At3.keep (h : At3 w b o v) (hk : ∀ p : Addr, p.block = b → w'.cell? p = w.cell? p) : At3 w' b o v := by
  obtain ⟨s, X, n, c, Y, m, d, h1, h2, h3, h4⟩ := h
  exact ⟨s, X, n, c, Y, m, d, h1, by rw [hk _ rfl]; exact h2, by rw [hk _ rfl]; exact h3, by rw [hk _ rfl]; exact h4⟩
theorem EL.up (h : EL w w.heap.size A vs) (hu : Up w w') : EL w' w'.heap.size A vs := fun h0 => by
  obtain ⟨b, o, e, hb, h1⟩ := h h0
  exact ⟨b, o, e, Nat.lt_of_lt_of_le hb hu.size, fun j hj => (h1 j hj).keep fun p hp => hu.cell (by omega)⟩
end

set_option maxRecDepth 100000 in
set_option maxHeartbeats 3200000 in
theorem keepRats_any (A : Option Addr) (cap : Nat) (vs : List Value) (n : Nat) (w : World) (hr : EL w w.heap.size A vs) (hn : n ≤ 1000) (hl : vs.length ≤ 9223372036854775807)
    (h8 : ∀ v ∈ vs, ∀ s X a c Y b d, v = Value.agg #[.bool s, .slice X a c, .slice Y b d] → a ≤ 9223372036854775807 ∧ b ≤ 9223372036854775807) :
    Calls Try.prog 9 #[.slice A vs.length cap, .int .i64 (n : Int)] w fun e w' => e = .returned (.bool (decide (vs.length ≤ n) && vs.all smallV)) ∧ Up w w' := by
  have HR := Lib.hid hr
  have H8 := Lib.hid h8
  clear hr h8
  obtain ⟨L, hL⟩ : ∃ L, L = vs.length := ⟨_, rfl⟩
  have HL := Lib.hid hL
  rw [← hL] at hl ⊢
  clear hL
  go_enter Try.func9, Try.ntmps9
  go_wp2_with fail
  go_loopw [5] (fun i wr => ∃ k : Nat, k ≤ L ∧ k ≤ n + 1 ∧ i = .int .i64 k ∧ Hid (∀ v ∈ vs.take k, smallV v = true) ∧ Up w wr) (fun i _ => L - (intOf i).toNat)
  case atStart => exact ⟨0, Nat.zero_le _, Nat.zero_le _, rfl, Lib.hid (by simp), Up.refl _⟩
  case round =>
    obtain ⟨k, hk, hkn, rfl, HS, hU⟩ := hrel
    by_cases hlt : k < L
    · have t1 : decide ((k : Int) < (L : Int)) = true := by simp; omega
      have t2 : decide (k < L) = true := by simp; omega
      by_cases hle : k ≤ n
      · have t3 : decide ((k : Int) ≤ (n : Int)) = true := by simp; omega
        have t4 : decide (k ≤ n) = true := by simp; omega
        have hkv : k < vs.length := by rw [← HL.out]; exact hlt
        obtain ⟨b, o, rfl, hb, hel⟩ := (HR.out.up hU) (by omega)
        obtain ⟨s, X, a, c, Y, m, d, hv, c0, c1, c2⟩ := hel k hkv
        have hb8 := H8.out _ (List.getElem_mem hkv) _ _ _ _ _ _ _ hv
        have hsv : smallV vs[k] = (decide (a ≤ 8) && decide (m ≤ 8)) := by rw [hv]; rfl
        have HSV := Lib.hid hsv
        have HK := Lib.hid (keepRat_any s X Y a m c d wr hb8.1 hb8.2)
        obtain ⟨t, ht⟩ : ∃ t, t = (decide (a ≤ 8) && decide (m ≤ 8)) := ⟨_, rfl⟩
        rw [← ht] at HK HSV
        clear hel hv hsv hb8 ht
        cases t with
        | true =>
          have HS2 : Hid (∀ v ∈ vs.take (k + 1), smallV v = true) := by
            refine Lib.hid fun v hv => ?_
            rw [List.take_succ_eq_append_getElem hkv, List.mem_append] at hv
            rcases hv with hv | hv
            · exact HS.out v hv
            · simp at hv; rw [hv]; exact HSV.out
          clear HS
          go_wp2_with fail
          refine HK.out.mono ?_
          rintro e w2 ⟨rfl, U2⟩
          go_wp2_with fail
          go_roundw
          case rel => exact ⟨k + 1, by omega, by omega, by go_num, HS2, hU.trans U2⟩
          case measure => simp [intOf]; omega
        | false =>
          have HF : Hid ((decide (L ≤ n) && vs.all smallV) = false) := by
            refine Lib.hid ?_
            rw [Bool.and_eq_false_iff]
            refine Or.inr ?_
            rw [List.all_eq_false]
            exact ⟨vs[k], List.getElem_mem hkv, by rw [HSV.out]; simp⟩
          go_wp2_with fail
          refine HK.out.mono ?_
          rintro e w2 ⟨rfl, U2⟩
          go_wp2_with fail
          go_ret
          rw [HF.out]
          exact ⟨rfl, hU.trans U2⟩
      · have t3 : decide ((k : Int) ≤ (n : Int)) = false := by simp; omega
        have t4 : decide (k ≤ n) = false := by simp; omega
        have t5 : decide ((L : Int) ≤ (n : Int)) = false := by simp; omega
        have t6 : decide (L ≤ n) = false := by simp; omega
        go_wp2_with fail
        go_ret
        exact ⟨ret_bool (by rw [t6]; rfl), hU⟩
    · have hkL : k = L := by omega
      subst hkL
      have t1 : decide ((k : Int) < (k : Int)) = false := by simp
      have hall : vs.all smallV = true := by
        rw [List.all_eq_true]
        intro v hv
        exact HS.out v (by rw [HL.out, List.take_length]; exact hv)
      have HA := Lib.hid hall
      clear hall
      by_cases hle : k ≤ n
      · have t5 : decide ((k : Int) ≤ (n : Int)) = true := by simp; omega
        have t6 : decide (k ≤ n) = true := by simp; omega
        go_wp2_with fail
        go_ret
        exact ⟨ret_bool (by rw [HA.out, t6]; rfl), hU⟩
      · have t5 : decide ((k : Int) ≤ (n : Int)) = false := by simp; omega
        have t6 : decide (k ≤ n) = false := by simp; omega
        go_wp2_with fail
        go_ret
        exact ⟨ret_bool (by rw [t6]; rfl), hU⟩
end Go.Proofs.Ytkngegcfdabpoaa
