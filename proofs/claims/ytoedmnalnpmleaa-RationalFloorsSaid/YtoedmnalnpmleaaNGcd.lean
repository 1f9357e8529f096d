/-
  The contract of rational.gcd.
-/
import Derived.Test.YtoedmnalnpmleaaNDiv
namespace Go.Proofs.Ytoedmnalnpmleaa
open Go.RowKit

theorem RetN.up {w w1 w2 : World} {x : Nat} {e : Ending} (h : RetN w1 x e w2) (hu : Up w w1) : RetN w x e w2 := by
  obtain ⟨A, c, h1, h2, h3, h4, h5⟩ := h
  exact ⟨A, c, h1, h2, h3, h4, hu.trans h5⟩

/-- What a slice of limbs denotes. -/
def readN (w : World) : Value → Nat
  | .slice (some a) l _ => nv ((List.range l).map fun k => match w.cell? (a.add k) with | some (.int _ z) => z.toNat | _ => 0)
  | _ => 0
theorem readN_eq {w : World} {A : Option Addr} {x c : Nat} (h : NS w A x) : readN w (.slice A (ln x) c) = x := by
  have hl : (digs x).length = ln x := rfl
  have hx := nv_digs x
  unfold NS at h
  obtain ⟨ns, hns⟩ : ∃ ns, ns = digs x := ⟨_, rfl⟩
  rw [← hns] at h hl hx
  rw [← hl]
  cases A with
  | none =>
    have : ns.length = 0 := by
      rcases Nat.eq_zero_or_pos ns.length with h0 | h0
      · exact h0
      · obtain ⟨ad, e, _⟩ := h.nat h0; cases e
    have : ns = [] := List.length_eq_zero_iff.1 this
    subst this
    simp [nv] at hx
    simp [readN, hx]
  | some a =>
    have : (List.range ns.length).map (fun k => match w.cell? (a.add k) with | some (.int _ z) => z.toNat | _ => 0) = ns := by
      refine List.ext_getElem (by simp) ?_
      intro k h1 h2
      obtain ⟨ad, e, _, hc⟩ := h.nat h2
      cases e
      simp [hc]
    simp only [readN]
    rw [this, hx]
theorem lt_words {x : Nat} (h : ln x ≤ 2) : x < 18446744073709551616 := Nat.lt_of_lt_of_le (ln_le.1 h) (by decide)

set_option maxHeartbeats 6400000 in
theorem gcd_any (A : Option Addr) (cap x : Nat) (B : Option Addr) (dap y : Nat) (w : World) (ha : NS w A x) (hb : NS w B y) (hca : ln x ≤ cap) (hcb : ln y ≤ dap) (hma : cap ≤ 9223372036854775807) (hmb : dap ≤ 9223372036854775807)
    (hla : ln x ≤ 17179869183) (hlb : ln y ≤ 17179869183) :
    Calls Try.prog 39 #[.slice A (ln x) cap, .slice B (ln y) dap] w (RetN w (Nat.gcd x y)) := by
  have HA := Lib.hid ha
  have HB := Lib.hid hb
  have HC := Lib.hid (And.intro hca (And.intro hma (And.intro hcb hmb)))
  clear ha hb hca hcb hma hmb
  go_enter Try.func39, Try.ntmps39
  go_wp2_with fail
  go_loopw [0, 1] (fun v0 v1 wr => ∃ (A : Option Addr) (c a : Nat) (B : Option Addr) (d b : Nat), v0 = .slice A (ln a) c ∧ v1 = .slice B (ln b) d ∧ ln a ≤ 17179869183 ∧ ln b ≤ 17179869183 ∧
      Hid (NS wr A a ∧ NS wr B b ∧ ln a ≤ c ∧ c ≤ 9223372036854775807 ∧ ln b ≤ d ∧ d ≤ 9223372036854775807 ∧ Nat.gcd a b = Nat.gcd x y) ∧ Up w wr) (fun _ v1 wr => readN wr v1)
  case atStart => exact ⟨A, cap, x, B, dap, y, rfl, rfl, hla, hlb, Lib.hid ⟨HA.out, HB.out, HC.out.1, HC.out.2.1, HC.out.2.2.1, HC.out.2.2.2, rfl⟩, Up.refl w⟩
  case round =>
    obtain ⟨A1, c, a, B1, d, b, rfl, rfl, hl1, hl2, HR, hU⟩ := hrel
    by_cases hb0 : b = 0
    · subst hb0
      have hg : a = Nat.gcd x y := by rw [← HR.out.2.2.2.2.2.2, Nat.gcd_zero_right]
      have HG := Lib.hid hg
      clear hg
      rw [ln_zero] at *
      go_wp2_with fail
      go_ret
      rw [← HG.out]
      exact ⟨A1, c, rfl, HR.out.2.2.1, HR.out.2.2.2.1, HR.out.1, hU⟩
    · have hlp : 0 < ln b := Nat.pos_of_ne_zero fun h => hb0 (ln_eq_zero.1 h)
      by_cases hw : ln a ≤ 2 ∧ ln b ≤ 2
      · obtain ⟨hw1, hw2⟩ := hw
        have hx1 := lt_words hw1
        have hx2 := lt_words hw2
        have HW1 := word_any A1 c a wr HR.out.1 (by omega)
        have HW2 := word_any B1 d b wr HR.out.2.1 (by omega)
        rw [wordV_yes hx1] at HW1
        rw [wordV_yes hx2] at HW2
        have H1 := Lib.hid HW1
        have H2 := Lib.hid HW2
        clear HW1 HW2
        go_wp2_with fail
        refine H1.out.mono ?_
        rintro e w5 ⟨rfl, rfl⟩
        go_wp2_with fail
        refine H2.out.mono ?_
        rintro e w5 ⟨rfl, rfl⟩
        go_wp2_with fail
        go_loopw [5, 7] (fun v0 v1 wx => ∃ p q : Nat, v0 = .int .u64 p ∧ v1 = .int .u64 q ∧ p < 18446744073709551616 ∧ q < 18446744073709551616 ∧ Hid (Nat.gcd p q = Nat.gcd x y) ∧ Up w wx) (fun _ v1 _ => (intOf v1).toNat)
        case atStart => exact ⟨a, b, rfl, rfl, hx1, hx2, Lib.hid HR.out.2.2.2.2.2.2, hU⟩
        case round =>
          obtain ⟨p, q, rfl, rfl, hp, hq, HG, hUx⟩ := hrel
          by_cases hq0 : q = 0
          · subst hq0
            have HG2 := Lib.hid (show p = Nat.gcd x y from by rw [← HG.out, Nat.gcd_zero_right])
            go_wp2_with fail
            refine (fromWord_any p _ hp).mono ?_
            rintro e w6 hR6
            obtain ⟨A6, c6, rfl, h61, h62, h63, h64⟩ := hR6
            go_wp2_with fail
            go_ret
            rw [← HG2.out]
            exact ⟨A6, c6, rfl, h61, h62, h63, hUx.trans h64⟩
          · have hq1 : ((q : Int) == 0) = false := by simp; omega
            have hq2 : decide ((0 : Int) < q) = true := by simp; omega
            have HM := Lib.hid (Nat.mod_lt p (Nat.pos_of_ne_zero hq0))
            have HG2 := Lib.hid (show Nat.gcd q (p % q) = Nat.gcd x y from by rw [Nat.gcd_comm, ← Nat.gcd_rec, Nat.gcd_comm]; exact HG.out)
            go_wp2_with fail
            go_quiet (fail)
            go_wp2_with fail
            go_roundw
            case rel => exact ⟨q, p % q, rfl, by simp, hq, Nat.lt_trans HM.out hq, HG2, below_drewN hUx _⟩
            case measure =>
              have h := HM.out
              have e : (p : Int) % q = ((p % q : Nat) : Int) := by simp
              simp [intOf]
              rw [e]
              omega
      · have HD := Lib.hid (divide_any A1 c a B1 d b wr HR.out.1 HR.out.2.1 hl1 (by omega) hb0)
        have HM := Lib.hid (Nat.mod_lt a (Nat.pos_of_ne_zero hb0))
        have HG2 := Lib.hid (show Nat.gcd b (a % b) = Nat.gcd x y from by rw [Nat.gcd_comm, ← Nat.gcd_rec, Nat.gcd_comm]; exact HR.out.2.2.2.2.2.2)
        go_wp2_with fail
        all_goals
          refine HD.out.mono ?_
          rintro e w5 ⟨A2, c2, B2, d2, rfl, h1, h2, h3, h4, h5, h6, hU5⟩
          go_wp2_with fail
          go_roundw
          case rel =>
            exact ⟨B1, d, b, B2, d2, a % b, rfl, rfl, hl2, Nat.le_trans (ln_mono (Nat.le_of_lt HM.out)) hl2, Lib.hid ⟨HR.out.2.1.up hU5, h6, HR.out.2.2.2.2.1, HR.out.2.2.2.2.2.1, h3, h4, HG2.out⟩, hU.trans hU5⟩
          case measure =>
            have e1 := readN_eq (c := d2) h6
            have e2 := readN_eq (c := d) HR.out.2.1
            exact (by rw [e1, e2]; exact HM.out : readN w5 (.slice B2 (ln (a % b)) d2) < readN wr (.slice B1 (ln b) d))
end Go.Proofs.Ytoedmnalnpmleaa
