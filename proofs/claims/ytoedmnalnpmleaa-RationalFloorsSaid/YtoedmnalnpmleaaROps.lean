/-
  Rational numbers as values: Canonical, Integral, Neg, Abs, Add, Sub.
-/
import Derived.Test.YtoedmnalnpmleaaRPlus
namespace Go.Proofs.Ytoedmnalnpmleaa
open Go.RowKit

theorem field2 (s : Bool) (A A' : Option Addr) (n c n' c' : Nat) : ∀ w, (Instr.field 41 (.agg #[.bool s, .slice A n c, .slice A' n' c']) 2).run Try.prog w = .ok (.slice A' n' c') w := fun _ => by kernel_rfl
theorem isOne_q {w : World} {s : Bool} {A A' : Option Addr} {c c' n n' : Nat} {q : Rat} (h : QV w (.agg #[.bool s, .slice A n c, .slice A' n' c']) q) (hl : qs q ≤ 17592186044416) :
    Calls Try.prog 32 #[.slice A' n' c'] w fun e w' => e = .returned (.bool (q.den == 1)) ∧ w = w' := by
  obtain ⟨D, ca, D', cb, e, h1, h2, _⟩ := h
  injection e with e
  simp at e
  obtain ⟨rfl, ⟨rfl, rfl, rfl⟩, rfl, rfl, rfl⟩ := e
  exact isOne_any A' c' q.den w h2 (Nat.le_trans (qs_den q) hl)

theorem FQ.flip {w : World} {s : Bool} {a b : Value} {q : Rat} {B : Nat} (h : FQ w (.agg #[.bool s, a, b]) q B) : FQ w (.agg #[.bool (!s), a, b]) (-q) B := by
  obtain ⟨s', n, d, ⟨A, ca, A', cb, e, h1⟩, h2, h3, h4, rfl⟩ := h
  injection e with e
  simp at e
  obtain ⟨rfl, rfl, rfl⟩ := e
  exact ⟨!s, n, d, ⟨A, ca, A', cb, rfl, h1⟩, h2, h3, h4, by rw [fq_neg]⟩
theorem FQ.plain {w : World} {s : Bool} {a b : Value} {q : Rat} {B : Nat} (h : FQ w (.agg #[.bool s, a, b]) q B) : FQ w (.agg #[.bool false, a, b]) q.abs B := by
  obtain ⟨s', n, d, ⟨A, ca, A', cb, e, h1⟩, h2, h3, h4, rfl⟩ := h
  injection e with e
  simp at e
  obtain ⟨rfl, rfl, rfl⟩ := e
  exact ⟨false, n, d, ⟨A, ca, A', cb, rfl, h1⟩, h2, h3, h4, by rw [fq_abs s]⟩

set_option maxRecDepth 100000 in
set_option maxHeartbeats 1600000 in
theorem canonical_q {v : Value} {q : Rat} {B : Nat} {w : World} (h : IV w v q B) (hB : B ≤ 8589934590) : Calls Try.prog 13 #[v] w (RetQ w (q)) := by
  have H := Lib.hid (fun wx (u : Up w wx) => load_q (h.up u) (by omega))
  obtain ⟨s, A, n, c, A', n', c', rfl⟩ := h.shape
  clear h
  go_enter Try.func13, Try.ntmps13
  go_wp2_with fail
  obtain ⟨w1, hw1⟩ : ∃ w1, w1 = (w.alloc (Obj.cells #[.bool s, .slice A n c, .slice A' n' c'] 24)).alloc (Obj.cells #[.bool false, .slice none 0 0, .slice none 0 0] 24) := ⟨_, rfl⟩
  have U1 : Up w w1 := by rw [hw1]; exact ((Below.refl _ _).alloc (Nat.le_refl _) _).alloc (by simp) _
  have r1 : Blk w1 (w.heap.size + 1) 24 #[.bool false, .slice none 0 0, .slice none 0 0] := by rw [hw1]; exact Blk.new' _ _ _ (by simp)
  rw [← hw1]
  clear hw1
  refine (H.out w1 U1).mono ?_
  rintro e w2 ⟨v2, rfl, hF, hU2⟩
  obtain ⟨s2, A2, n2, c2, A2', n2', c2', rfl⟩ := hF.shape
  have HF := Lib.hid hF
  have U2 := U1.trans hU2
  have r2 := r1.up hU2
  have z2 := r2.lt
  clear hF hU2 r1 U1
  go_wp2_with fail
  refine (store_q HF.out (by omega)).mono ?_
  rintro e w3 ⟨v3, rfl, hQ, hU3⟩
  obtain ⟨s3, A3, n3, c3, A3', n3', c3', rfl⟩ := hQ.shape
  have HQ := Lib.hid hQ
  have U3 := U2.trans hU3
  have r3 := r2.up hU3
  obtain ⟨d0, d1, d2⟩ := tri r3
  have f0 := r3.frozen 0
  have f1 := r3.frozen 1
  have f2 := r3.frozen 2
  have z3 := r3.lt
  clear hQ
  go_wp2_with fail
  obtain ⟨c0, c1, c2'⟩ := tri (tri_set r3 (.bool s3) (.slice A3 n3 c3) (.slice A3' n3' c3'))
  refine bodyPost_ret (v := .agg #[.bool s3, .slice A3 n3 c3, .slice A3' n3' c3']) ?_ rfl (ret_q r3 HQ.out U3 (by omega))
  simp [results, Try.results13, go_sem, c0, c1, c2']

end Go.Proofs.Ytoedmnalnpmleaa
