/-
  Rational numbers in memory, by their values: canonical ones, fractions, and numbers as they come in.
-/
import Derived.Test.YtoedmnalnpmleaaRSmall
import Derived.Test.YtoedmnalnpmleaaQuo
namespace Go.Proofs.Ytoedmnalnpmleaa
open Go.RowKit

/-- The canonical form of q. -/
def QV (w : World) (v : Value) (q : Rat) : Prop := FV w v (decide (q.num < 0)) q.num.natAbs q.den
/-- A fraction of at most B limbs with the value q. -/
def FQ (w : World) (v : Value) (q : Rat) (B : Nat) : Prop := ∃ s n d, FV w v s n d ∧ d ≠ 0 ∧ ln n ≤ B ∧ ln d ≤ B ∧ q = fq s n d
/-- A number as it comes in, of at most B words, with the value q. -/
def IV (w : World) (v : Value) (q : Rat) (B : Nat) : Prop := ∃ s xs ys, RV w v s xs ys ∧ xs.length ≤ B ∧ ys.length ≤ B ∧ q = fq s (nv xs) (nv ys)
def RetQ (w0 : World) (q : Rat) (e : Ending) (w' : World) : Prop := ∃ v, e = .returned v ∧ QV w' v q ∧ Up w0 w'
def RetFQ (w0 : World) (q : Rat) (B : Nat) (e : Ending) (w' : World) : Prop := ∃ v, e = .returned v ∧ FQ w' v q B ∧ Up w0 w'
section
variable {w w' : World} {v : Value} {q : Rat} {B B' : Nat}
theorem QV.up (h : QV w v q) (hu : Up w w') : QV w' v q := FV.up h hu
theorem FQ.up (h : FQ w v q B) (hu : Up w w') : FQ w' v q B := by
  obtain ⟨s, n, d, h1, h2⟩ := h
  exact ⟨s, n, d, h1.up hu, h2⟩
theorem IV.up (h : IV w v q B) (hu : Up w w') : IV w' v q B := by
  obtain ⟨s, n, d, h1, h2⟩ := h
  exact ⟨s, n, d, h1.up hu, h2⟩
theorem FQ.more (h : FQ w v q B) (hB : B ≤ B') : FQ w v q B' := by
  obtain ⟨s, n, d, h1, h2, h3, h4, h5⟩ := h
  exact ⟨s, n, d, h1, h2, by omega, by omega, h5⟩
theorem IV.more (h : IV w v q B) (hB : B ≤ B') : IV w v q B' := by
  obtain ⟨s, n, d, h1, h2, h3, h4⟩ := h
  exact ⟨s, n, d, h1, by omega, by omega, h4⟩
theorem QV.fq (h : QV w v q) (hB : qs q ≤ B) : FQ w v q B := ⟨_, _, _, h, q.den_nz, Nat.le_trans (qs_num q) hB, Nat.le_trans (qs_den q) hB, (fq_self q).symm⟩
theorem lt32_digs (n : Nat) : ∀ a ∈ digs n, a < 4294967296 := fun a ha => Nat.lt_trans (digs_lt n a ha) (by omega)
theorem FQ.iv (h : FQ w v q B) : IV w v q B := by
  obtain ⟨s, n, d, ⟨A, ca, A', cb, rfl, h1, h2, h3, h4, h5, h6⟩, k1, k2, k3, k4⟩ := h
  exact ⟨s, digs n, digs d, ⟨A, ca, A', cb, rfl, h1, h2, lt32_digs n, lt32_digs d, h3, h4, h5, h6⟩, k2, k3, by rw [nv_digs, nv_digs]; exact k4⟩
theorem QV.iv (h : QV w v q) (hB : qs q ≤ B) : IV w v q B := (h.fq hB).iv
theorem IV.shape (h : IV w v q B) : ∃ s A n c A' n' c', v = .agg #[.bool s, .slice A n c, .slice A' n' c'] := by
  obtain ⟨s, xs, ys, ⟨A, ca, A', cb, rfl, _⟩, _⟩ := h
  exact ⟨_, _, _, _, _, _, _, rfl⟩
theorem FQ.shape (h : FQ w v q B) : ∃ s A n c A' n' c', v = .agg #[.bool s, .slice A n c, .slice A' n' c'] := h.iv.shape
theorem QV.shape (h : QV w v q) : ∃ s A n c A' n' c', v = .agg #[.bool s, .slice A n c, .slice A' n' c'] := (h.fq (Nat.le_refl _)).shape
theorem FQ.qs (h : FQ w v q B) : qs q ≤ B := by
  obtain ⟨s, n, d, h1, h2, h3, h4, rfl⟩ := h
  exact qs_fq h3 h4 (by have : ln d ≠ 0 := fun e => h2 (ln_eq_zero.1 e); omega)
theorem IV.qs (h : IV w v q B) : Go.Proofs.Ytoedmnalnpmleaa.qs q ≤ B + 1 := by
  obtain ⟨s, xs, ys, ⟨A, ca, A', cb, rfl, h1, h2, h3, h4, _⟩, k1, k2, rfl⟩ := h
  exact qs_fq (Nat.le_trans (ln_nv32 h3) (by omega)) (Nat.le_trans (ln_nv32 h4) (by omega)) (by omega)
end
section
variable {w w0 w4 : World} {g : Nat} {t : TypeId} {b s : Bool} {A A' C C' : Option Addr} {l l' k k' n n' c c' : Nat} {q : Rat} {B : Nat} {x y z : Value}
theorem FV.far {s' : Bool} {m d : Nat} {v : Value} (h : FV w v s' m d) {cs : Array Value} (r : Blk w g t cs) (hc : ∀ (i : Nat) (k : IntKind) (z : Int), cs[i]? ≠ some (Value.int k z)) {w' : World} (ho : w.grownBy w' (some g)) : FV w' v s' m d := by
  obtain ⟨A, ca, A', cb, rfl, h1, h2, h3, h4, h5, h6⟩ := h
  exact ⟨A, ca, A', cb, rfl, h1.far r hc ho, h2.far r hc ho, h3, h4, h5, h6⟩
theorem FQ.far {v : Value} (h : FQ w v q B) {cs : Array Value} (r : Blk w g t cs) (hc : ∀ (i : Nat) (k : IntKind) (z : Int), cs[i]? ≠ some (Value.int k z)) {w' : World} (ho : w.grownBy w' (some g)) : FQ w' v q B := by
  obtain ⟨s, n, d, h1, h2⟩ := h
  exact ⟨s, n, d, FV.far h1 r hc ho, h2⟩
/-- What a function leaves that has stored its result in the box g. -/
theorem ret_q (r : Blk w4 g t #[.bool b, .slice C l k, .slice C' l' k']) {v : Value} (hq : QV w4 v q) (hU : Up w w4) (hg : w.heap.size ≤ g) :
    RetQ w q (.returned v) (((w4.setCell ⟨g, 0, none⟩ x).setCell ⟨g, 1, none⟩ y).setCell ⟨g, 2, none⟩ z) :=
  ⟨_, rfl, FV.far hq r noint3 (only_tri _ _ _), up_tri hU hg _ _ _⟩
theorem ret_fq (r : Blk w4 g t #[.bool b, .slice C l k, .slice C' l' k']) {v : Value} (hq : FQ w4 v q B) (hU : Up w w4) (hg : w.heap.size ≤ g) :
    RetFQ w q B (.returned v) (((w4.setCell ⟨g, 0, none⟩ x).setCell ⟨g, 1, none⟩ y).setCell ⟨g, 2, none⟩ z) :=
  ⟨_, rfl, hq.far r noint3 (only_tri _ _ _), up_tri hU hg _ _ _⟩
end

section
variable {v : Value} {q : Rat} {B : Nat} {w : World}
theorem load_q (h : IV w v q B) (hB : B ≤ 17179869183) : Calls Try.prog 23 #[v] w (RetFQ w q (B + 1)) := by
  obtain ⟨s, xs, ys, ⟨A, ca, A', cb, rfl, h1, h2, h3, h4, _⟩, k1, k2, rfl⟩ := h
  refine (load_any s A ca A' cb xs ys w h1 h2 h3 h4 (by omega) (by omega)).mono ?_
  rintro e w' ⟨v, rfl, hF, hU⟩
  refine ⟨v, rfl, ⟨_, _, _, hF, ldD_ne, ?_, ?_, ?_⟩, hU⟩
  · exact Nat.le_trans (ln_mono (ldN_le _ _)) (Nat.le_trans (ln_nv32 h3) (by omega))
  · exact ln_ldD (Nat.le_trans (ln_nv32 h4) (by omega)) (by omega)
  · unfold ldS ldN ldD
    by_cases hz : nv xs = 0 ∨ nv ys = 0
    · rw [if_pos hz, if_pos hz, if_pos hz, fq_zero]
      rcases hz with e | e
      · rw [e, fq_zero]
      · rw [e, fq_none]
    · rw [if_neg hz, if_neg hz, if_neg hz]
theorem lowest_q (h : FQ w v q B) (hB : B ≤ 17179869183) : Calls Try.prog 31 #[v] w (RetQ w q) := by
  obtain ⟨s, n, d, ⟨A, ca, A', cb, rfl, h1, h2, h3, h4, h5, h6⟩, k1, k2, k3, rfl⟩ := h
  have := lowest_any s A ca A' cb n d w h1 h2 h3 h4 h5 h6 (by omega) (by omega) k1
  unfold RetQ QV
  rw [fq_num k1, fq_den k1, fq_sign k1]
  exact this
theorem store_q (h : FQ w v q B) (hB : B ≤ 17179869183) : Calls Try.prog 22 #[v] w (RetQ w q) := by
  obtain ⟨s, n, d, ⟨A, ca, A', cb, rfl, h1, h2, h3, h4, h5, h6⟩, k1, k2, k3, rfl⟩ := h
  have := store_any s A ca A' cb n d w h1 h2 h3 h4 h5 h6 (by omega) (by omega) k1
  unfold RetQ QV
  rw [fq_num k1, fq_den k1, fq_sign k1]
  exact this
theorem fsign_q (h : FQ w v q B) (hB : B ≤ 17592186044416) : Calls Try.prog 24 #[v] w fun e w' => e = .returned (.int .i64 (sgn q)) ∧ Up w w' := by
  obtain ⟨s, n, d, ⟨A, ca, A', cb, rfl, h1, h2, h3, h4, h5, h6⟩, k1, k2, k3, rfl⟩ := h
  rw [sgn_fq _ _ _ k1]
  exact fsign_any s A ca A' cb n d w (by omega)
theorem fromInt_q (z : Int) (h1 : -9223372036854775808 ≤ z) (h2 : z ≤ 9223372036854775807) : Calls Try.prog 8 #[.int .i64 z] w (RetQ w (z : Rat)) := fromInt_any z w h1 h2
theorem small_q (x y : Int) (h1 : -9223372036854775808 ≤ x) (h2 : x ≤ 9223372036854775807) (h3 : -9223372036854775808 ≤ y) (h4 : y ≤ 9223372036854775807) :
    Calls Try.prog 28 #[.int .i64 x, .int .i64 y] w (RetQ w ((x : Rat) / (y : Rat))) := by
  by_cases hy : y = 0
  · subst hy
    rw [show (x : Rat) / ((0 : Int) : Rat) = 0 from by simp [Rat.div_def]]
    exact small_zero x w
  · have := small_yes x y w h1 h2 h3 h4 hy
    have hd : y.natAbs ≠ 0 := by omega
    unfold RetQ QV
    rw [← fq_ints, fq_num hd, fq_den hd, fq_sign hd]
    exact this
theorem sign_q (h : IV w v q B) (hB : B ≤ 8589934592) : Calls Try.prog 9 #[v] w fun e w' => e = .returned (.int .i64 (sgn q)) ∧ Up w w' := by
  obtain ⟨s, xs, ys, ⟨A, ca, A', cb, rfl, h1, h2, h3, h4, _⟩, k1, k2, rfl⟩ := h
  have := sign_any s A ca A' cb xs ys w h1 h2 h3 h4 (by omega) (by omega) (Nat.le_trans (ln_nv32 h3) (by omega))
  have e : fq s (nv xs) (nv ys) = fq (ldS s (nv xs) (nv ys)) (ldN (nv xs) (nv ys)) (ldD (nv xs) (nv ys)) := by
    unfold ldS ldN ldD
    by_cases hz : nv xs = 0 ∨ nv ys = 0
    · rw [if_pos hz, if_pos hz, if_pos hz, fq_zero]
      rcases hz with e | e
      · rw [e, fq_zero]
      · rw [e, fq_none]
    · rw [if_neg hz, if_neg hz, if_neg hz]
  rw [e, sgn_fq _ _ _ ldD_ne]
  exact this
end
end Go.Proofs.Ytoedmnalnpmleaa
