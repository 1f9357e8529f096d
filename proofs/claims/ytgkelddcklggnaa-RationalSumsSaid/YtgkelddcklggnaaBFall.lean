/-
  binomial.falling and Choose: binomial coefficients.
-/
import Derived.Test.YtgkelddcklggnaaPD
import Derived.Test.YtgkelddcklggnaaPF
import Derived.Test.YtgkelddcklggnaaBinom
namespace Go.Proofs.Ytgkelddcklggnaa
open Go.RowKit

/-- A box with a canonical number. -/
def BoxQ (w : World) (g : Nat) (q : Rat) : Prop := ∃ s A n c A' n' c', Blk w g 24 #[.bool s, .slice A n c, .slice A' n' c'] ∧ QV w (.agg #[.bool s, .slice A n c, .slice A' n' c']) q
theorem BoxQ.up {w w' : World} {g : Nat} {q : Rat} (h : BoxQ w g q) (hu : Up w w') : BoxQ w' g q := by
  obtain ⟨s, A, n, c, A', n', c', h1, h2⟩ := h
  exact ⟨s, A, n, c, A', n', c', h1.up hu, h2.up hu⟩
theorem BoxQ.lt {w : World} {g : Nat} {q : Rat} (h : BoxQ w g q) : g < w.heap.size := by
  obtain ⟨s, A, n, c, A', n', c', h1, h2⟩ := h
  exact h1.lt
theorem BoxQ.of {w : World} {g : Nat} {s : Bool} {A A' : Option Addr} {n c n' c' : Nat} {t : TypeId} {q : Rat} (h : Blk w g 24 #[.bool s, .slice A n c, .slice A' n' c']) {s' : Bool} {C C' : Option Addr} {m d m' d' : Nat}
    (hq : QV w (.agg #[.bool s', .slice C m d, .slice C' m' d']) q) : BoxQ (((w.setCell ⟨g, 0, none⟩ (.bool s')).setCell ⟨g, 1, none⟩ (.slice C m d)).setCell ⟨g, 2, none⟩ (.slice C' m' d')) g q :=
  ⟨_, _, _, _, _, _, _, tri_set h _ _ _, QV.kp hq (Kp.tri (Kp.refl w) h)⟩
theorem qs_bc (n : Int) (h1 : -4611686018427387904 ≤ n) (h2 : n ≤ 9223372036854775807) : ∀ k, k ≤ 64 → qs (bc (n : Rat) k) ≤ 6 * k + 3 := by
  intro k
  induction k with
  | zero => intro _; rw [bc_zero]; exact qs_int 1 (by omega) (by omega)
  | succ k ih =>
    intro hk
    have e : bc (n : Rat) (k + 1) = bc (n : Rat) k * (((n - (k : Int) : Int) : Rat) / (((k : Int) + 1 : Int) : Rat)) := by
      rw [bc_succ, Rat.div_def, Rat.div_def]
      rw [Rat.intCast_sub, Rat.intCast_add, Rat.intCast_natCast]
      rw [Rat.mul_assoc]
      rfl
    rw [e]
    have a1 := qs_mul (bc (n : Rat) k) (((n - (k : Int) : Int) : Rat) / (((k : Int) + 1 : Int) : Rat))
    have a2 := qs_div (((n - (k : Int) : Int) : Rat)) ((((k : Int) + 1 : Int) : Rat))
    have a3 := qs_int (n - (k : Int)) (by omega) (by omega)
    have a4 := qs_int ((k : Int) + 1) (by omega) (by omega)
    have := ih (by omega)
    omega
theorem bc_small (n : Int) (k : Nat) : bc (n : Rat) k * (((n - (k : Int) : Int) : Rat) / (((k : Int) + 1 : Int) : Rat)) = bc (n : Rat) (k + 1) := by
  rw [bc_succ, Rat.div_def, Rat.div_def]
  rw [Rat.intCast_sub, Rat.intCast_add, Rat.intCast_natCast]
  rw [Rat.mul_assoc]
  rfl

end Go.Proofs.Ytgkelddcklggnaa
