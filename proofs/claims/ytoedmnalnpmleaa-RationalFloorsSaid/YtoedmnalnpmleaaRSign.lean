/-
  Rational numbers as values: sign, Sign.
-/
import Derived.Test.YtoedmnalnpmleaaRInt
namespace Go.Proofs.Ytoedmnalnpmleaa
open Go.RowKit

def sgnF (s : Bool) (n : Nat) : Int := if n = 0 then 0 else if s = true then -1 else 1
set_option maxHeartbeats 1600000 in
theorem fsign_any (s : Bool) (A : Option Addr) (ca : Nat) (B : Option Addr) (cb : Nat) (n d : Nat) (w : World) (_ : ln n ≤ 17592186044416) :
    Calls Try.prog 24 #[.agg #[.bool s, .slice A (ln n) ca, .slice B (ln d) cb]] w fun e w' => e = .returned (.int .i64 (sgnF s n)) ∧ Up w w' := by
  by_cases hn : n = 0
  · have ht : (((ln n : Nat) : Int) == 0) = true := by rw [hn, ln_zero]; rfl
    have hs : sgnF s n = 0 := by rw [sgnF, if_pos hn]
    rw [hs]
    clear hn hs
    go_enter Try.func24, Try.ntmps24
    go_wp2_with fail
    go_ret
    exact ⟨rfl, (Below.refl _ _).alloc (Nat.le_refl _) _⟩
  · have ht : (((ln n : Nat) : Int) == 0) = false := by simp; exact fun h => hn (ln_eq_zero.1 h)
    cases s with
    | true =>
      have hs : sgnF true n = -1 := by rw [sgnF, if_neg hn]; rfl
      rw [hs]
      clear hn hs
      go_enter Try.func24, Try.ntmps24
      go_wp2_with fail
      go_ret
      exact ⟨rfl, (Below.refl _ _).alloc (Nat.le_refl _) _⟩
    | false =>
      have hs : sgnF false n = 1 := by rw [sgnF, if_neg hn]; rfl
      rw [hs]
      clear hn hs
      go_enter Try.func24, Try.ntmps24
      go_wp2_with fail
      go_ret
      exact ⟨rfl, (Below.refl _ _).alloc (Nat.le_refl _) _⟩

set_option maxHeartbeats 1600000 in
theorem sign_any (s : Bool) (A : Option Addr) (ca : Nat) (B : Option Addr) (cb : Nat) (xs ys : List Nat) (w : World) (h1 : SI w w.heap.size .u32 A (zs xs)) (h2 : SI w w.heap.size .u32 B (zs ys))
    (h3 : ∀ a ∈ xs, a < 4294967296) (h4 : ∀ a ∈ ys, a < 4294967296) (h5 : xs.length ≤ 8589934592) (h6 : ys.length ≤ 8589934592) (h7 : ln (nv xs) ≤ 17179869183) :
    Calls Try.prog 9 #[.agg #[.bool s, .slice A xs.length ca, .slice B ys.length cb]] w fun e w' => e = .returned (.int .i64 (sgnF (ldS s (nv xs) (nv ys)) (ldN (nv xs) (nv ys)))) ∧ Up w w' := by
  have HL : ∀ wx, Up w wx → Calls Try.prog 23 #[.agg #[.bool s, .slice A xs.length ca, .slice B ys.length cb]] wx (RetF wx (ldS s (nv xs) (nv ys)) (ldN (nv xs) (nv ys)) (ldD (nv xs) (nv ys))) :=
    fun wx hu => load_any s A ca B cb xs ys wx (SI.up h1 hu) (SI.up h2 hu) h3 h4 (by omega) (by omega)
  have H := Lib.hid HL
  have hln : ln (ldN (nv xs) (nv ys)) ≤ 17592186044416 := by
    unfold ldN
    split
    · rw [ln_zero]; omega
    · omega
  obtain ⟨S, hS⟩ : ∃ S, S = ldS s (nv xs) (nv ys) := ⟨_, rfl⟩
  obtain ⟨N, hN⟩ : ∃ N, N = ldN (nv xs) (nv ys) := ⟨_, rfl⟩
  obtain ⟨D, hD⟩ : ∃ D, D = ldD (nv xs) (nv ys) := ⟨_, rfl⟩
  rw [← hS, ← hN] at H ⊢
  rw [← hD] at H
  rw [← hN] at hln
  clear HL h1 h2 h3 h4 h7 hS hN hD
  go_enter Try.func9, Try.ntmps9
  go_wp2_with fail
  refine (H.out _ ((Below.refl _ _).alloc (Nat.le_refl _) _)).mono ?_
  rintro e w2 ⟨v, rfl, ⟨A2, c2, B2, d2, rfl, q1, q2, q3, q4, q5, q6⟩, hU2⟩
  go_wp2_with fail
  refine (fsign_any S A2 c2 B2 d2 N D w2 hln).mono ?_
  rintro e w3 ⟨rfl, hU3⟩
  go_wp2_with fail
  go_ret
  exact ⟨rfl, Up.trans ((Below.refl _ _).alloc (Nat.le_refl _) _) (hU2.trans hU3)⟩
end Go.Proofs.Ytoedmnalnpmleaa
