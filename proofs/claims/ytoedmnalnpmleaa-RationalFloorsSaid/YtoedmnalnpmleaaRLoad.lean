/-
  Rational numbers as values: load.
-/
import Derived.Test.YtoedmnalnpmleaaNGcd
namespace Go.Proofs.Ytoedmnalnpmleaa
open Go.RowKit

/-- A rational as it comes in: a sign and two slices of whatever words. -/
def RV (w : World) (v : Value) (s : Bool) (xs ys : List Nat) : Prop :=
  ∃ A ca B cb, v = .agg #[.bool s, .slice A xs.length ca, .slice B ys.length cb] ∧ SI w w.heap.size .u32 A (zs xs) ∧ SI w w.heap.size .u32 B (zs ys) ∧
    (∀ a ∈ xs, a < 4294967296) ∧ (∀ a ∈ ys, a < 4294967296) ∧ xs.length ≤ ca ∧ ca ≤ 9223372036854775807 ∧ ys.length ≤ cb ∧ cb ≤ 9223372036854775807
/-- A fraction with the sign s, the numerator n and the denominator d. -/
def FV (w : World) (v : Value) (s : Bool) (n d : Nat) : Prop :=
  ∃ A ca B cb, v = .agg #[.bool s, .slice A (ln n) ca, .slice B (ln d) cb] ∧ NS w A n ∧ NS w B d ∧ ln n ≤ ca ∧ ca ≤ 9223372036854775807 ∧ ln d ≤ cb ∧ cb ≤ 9223372036854775807
theorem FV.up {w w' : World} {v : Value} {s : Bool} {n d : Nat} (h : FV w v s n d) (hu : Up w w') : FV w' v s n d := by
  obtain ⟨A, ca, B, cb, h1, h2, h3, h4⟩ := h
  exact ⟨A, ca, B, cb, h1, h2.up hu, h3.up hu, h4⟩
theorem RV.up {w w' : World} {v : Value} {s : Bool} {xs ys : List Nat} (h : RV w v s xs ys) (hu : Up w w') : RV w' v s xs ys := by
  obtain ⟨A, ca, B, cb, h1, h2, h3, h4⟩ := h
  exact ⟨A, ca, B, cb, h1, SI.up h2 hu, SI.up h3 hu, h4⟩
/-- A call returns such a fraction, and writes nothing that was there. -/
def RetF (w0 : World) (s : Bool) (n d : Nat) (e : Ending) (w' : World) : Prop := ∃ v, e = .returned v ∧ FV w' v s n d ∧ Up w0 w'
theorem tri {w : World} {g : Nat} {t : TypeId} {a b c : Value} (h : Blk w g t #[a, b, c]) : w.cell? ⟨g, 0, none⟩ = some a ∧ w.cell? ⟨g, 1, none⟩ = some b ∧ w.cell? ⟨g, 2, none⟩ = some c := by
  have c0 := h.cell 0
  have c1 := h.cell 1
  have c2 := h.cell 2
  simp at c0 c1 c2
  exact ⟨c0, c1, c2⟩

theorem only_alloc {a w : World} {row : Option Nat} (h : a.grownBy w row) (o : Obj) : a.grownBy (w.alloc o) row :=
  ⟨h.os, h.tape, h.output, by have := h.size; simp; omega, fun i hi hne => (Below.heap_alloc w o i (Nat.lt_of_lt_of_le hi h.size)).trans (h.block i hi hne)⟩
/-- Limbs do not lie in a block that holds no number. -/
theorem NS.far {w w' : World} {A : Option Addr} {x g : Nat} {t : TypeId} {cs : Array Value} (h : NS w A x) (hb : Blk w g t cs) (hc : ∀ (i : Nat) (k : IntKind) (z : Int), cs[i]? ≠ some (Value.int k z)) (ho : w.grownBy w' (some g)) : NS w' A x := by
  intro h0
  obtain ⟨ad, e, hl, hcell⟩ := h h0
  have hne : ad.block ≠ g := by
    intro hg
    have h1 := hcell 0 h0
    have h2 : ad.add 0 = ad := by simp [Addr.add]
    rw [h2] at h1
    unfold World.cell? at h1
    unfold Blk at hb
    rw [hg, hb] at h1
    simp only at h1
    split at h1
    · cases h1
    · exact hc _ _ _ h1
  refine ⟨ad, e, Nat.lt_of_lt_of_le hl ho.size, fun j hj => ?_⟩
  rw [← hcell j hj]
  unfold World.cell?
  rw [block_of_add, ho.block ad.block hl (by simp; exact hne)]
theorem noint3 {b : Bool} {A B : Option Addr} {l c l' c' : Nat} : ∀ (i : Nat) (k : IntKind) (z : Int), (#[Value.bool b, .slice A l c, .slice B l' c'] : Array Value)[i]? ≠ some (Value.int k z)
  | 0, _, _ => by simp
  | 1, _, _ => by simp
  | 2, _, _ => by simp
  | n + 3, _, _ => by simp
theorem tri_set {w : World} {g : Nat} {t : TypeId} {a b c : Value} (h : Blk w g t #[a, b, c]) (x y z : Value) : Blk (((w.setCell ⟨g, 0, none⟩ x).setCell ⟨g, 1, none⟩ y).setCell ⟨g, 2, none⟩ z) g t #[x, y, z] :=
  ((h.set_ 0 x).set_ 1 y).set_ 2 z
theorem up_tri {w w1 : World} {g : Nat} (h : Up w w1) (hg : w.heap.size ≤ g) (x y z : Value) : Up w (((w1.setCell ⟨g, 0, none⟩ x).setCell ⟨g, 1, none⟩ y).setCell ⟨g, 2, none⟩ z) := by
  refine Below.setCell (Below.setCell (Below.setCell h ?_ _) ?_ _) ?_ _
  all_goals (simp; omega)
theorem only_tri {w : World} {g : Nat} (x y z : Value) : w.grownBy (((w.setCell ⟨g, 0, none⟩ x).setCell ⟨g, 1, none⟩ y).setCell ⟨g, 2, none⟩ z) (some g) :=
  by
  have h0 : w.grownBy w (some g) := ⟨rfl, rfl, rfl, Nat.le_refl _, fun _ _ _ => rfl⟩
  have h1 := only_setCell h0 (p := ⟨g, 0, none⟩) rfl x
  have h2 := only_setCell h1 (p := ⟨g, 1, none⟩) rfl y
  exact only_setCell h2 (p := ⟨g, 2, none⟩) rfl z
/-- What is loaded: a number with a zero in it is 0 / 1. -/
def ldS (s : Bool) (x y : Nat) : Bool := if x = 0 ∨ y = 0 then false else s
def ldN (x y : Nat) : Nat := if x = 0 ∨ y = 0 then 0 else x
def ldD (x y : Nat) : Nat := if x = 0 ∨ y = 0 then 1 else y
theorem ln_one : ln 1 = 1 := by rw [ln, digs_small (by omega) (by omega)]; rfl
theorem ldD_ne {x y : Nat} : ldD x y ≠ 0 := by
  unfold ldD
  split
  · omega
  · rename_i h; omega
theorem ldN_le (x y : Nat) : ldN x y ≤ x := by
  unfold ldN
  split <;> omega
theorem ln_ldD {x y k : Nat} (h : ln y ≤ k) (hk : 1 ≤ k) : ln (ldD x y) ≤ k := by
  unfold ldD
  split
  · rw [ln_one]; exact hk
  · exact h

set_option maxHeartbeats 3200000 in
theorem load_any (s : Bool) (A : Option Addr) (ca : Nat) (B : Option Addr) (cb : Nat) (xs ys : List Nat) (w : World) (h1 : SI w w.heap.size .u32 A (zs xs)) (h2 : SI w w.heap.size .u32 B (zs ys))
    (h3 : ∀ a ∈ xs, a < 4294967296) (h4 : ∀ a ∈ ys, a < 4294967296) (h5 : xs.length ≤ 17179869184) (h6 : ys.length ≤ 17179869184) :
    Calls Try.prog 23 #[.agg #[.bool s, .slice A xs.length ca, .slice B ys.length cb]] w
      (RetF w (ldS s (nv xs) (nv ys)) (ldN (nv xs) (nv ys)) (ldD (nv xs) (nv ys))) := by
  have HN1 : ∀ wx, Up w wx → Calls Try.prog 34 #[.slice A xs.length ca] wx (RetN wx (nv xs)) := fun wx hu => normal_any A ca xs wx.heap.size wx (SI.up h1 hu) (Nat.le_refl _) h3 h5
  have HN2 : ∀ wx, Up w wx → Calls Try.prog 34 #[.slice B ys.length cb] wx (RetN wx (nv ys)) := fun wx hu => normal_any B cb ys wx.heap.size wx (SI.up h2 hu) (Nat.le_refl _) h4 h6
  have H1 := Lib.hid HN1
  have H2 := Lib.hid HN2
  have l1 : ln (nv xs) = 0 ↔ nv xs = 0 := ln_eq_zero
  have l2 : ln (nv ys) = 0 ↔ nv ys = 0 := ln_eq_zero
  obtain ⟨x, hx⟩ : ∃ x, x = nv xs := ⟨_, rfl⟩
  obtain ⟨y, hy⟩ : ∃ y, y = nv ys := ⟨_, rfl⟩
  rw [← hx] at H1 l1 ⊢
  rw [← hy] at H2 l2 ⊢
  have L1 := Lib.hid l1
  have L2 := Lib.hid l2
  clear HN1 HN2 h1 h2 h3 h4 hx hy l1 l2
  go_enter Try.func23, Try.ntmps23
  go_wp2_with fail
  obtain ⟨w1, hw1⟩ : ∃ w1, w1 = (w.alloc (Obj.cells #[.bool s, .slice A xs.length ca, .slice B ys.length cb] 24)).alloc (Obj.cells #[.bool false, .slice none 0 0, .slice none 0 0] 41) := ⟨_, rfl⟩
  have U1 : Up w w1 := by rw [hw1]; exact ((Below.refl _ _).alloc (Nat.le_refl _) _).alloc (by simp) _
  have b1 : Blk w1 w.heap.size 24 #[.bool s, .slice A xs.length ca, .slice B ys.length cb] := by rw [hw1]; exact (Blk.new w _ _).alloc _
  have r1 : Blk w1 (w.heap.size + 1) 41 #[.bool false, .slice none 0 0, .slice none 0 0] := by rw [hw1]; exact Blk.new' _ _ _ (by simp)
  rw [← hw1]
  clear hw1
  have s0 := tri b1
  go_region_held3 (fun wx => wx.cell? ⟨w.heap.size, 0, none⟩ = some (.bool s) ∧ wx.cell? ⟨w.heap.size, 1, none⟩ = some (.slice A xs.length ca) ∧ wx.cell? ⟨w.heap.size, 2, none⟩ = some (.slice B ys.length cb))
    (first | exact s0 | exact s2 | exact s3)
    (first
      | (go_at_call_of 34 (Value.slice A xs.length ca); refine (H1.out _ (by exact U1.drew)).mono ?_; rintro e w2 ⟨A2, c2, rfl, h21, h22, h23, hb2⟩; have U2 := Up.trans U1.drew hb2; have b2 := Blk.up (w := w1.drew) b1 hb2; have r2 := Blk.up (w := w1.drew) r1 hb2; have s2 := tri b2)
      | (go_at_call_of 34 (Value.slice B ys.length cb); refine (H2.out _ (by exact U2)).mono ?_; rintro e w3 ⟨A3, c3, rfl, h31, h32, h33, hb3⟩; have U3 := Up.trans U2 hb3; have b3 := Blk.up b2 hb3; have r3 := Blk.up r2 hb3; have s3 := tri b3))
  obtain ⟨d0, d1, d2⟩ := tri r3
  have f0 := r3.frozen 0
  have f1 := r3.frozen 1
  have f2 := r3.frozen 2
  have hz3 := r3.lt
  have hws := U3.size
  by_cases hx0 : x = 0 ∨ y = 0
  · have HX := Lib.hid hx0
    have ht : (((ln x : Nat) : Int) == 0) = true ∨ ((((ln x : Nat) : Int) == 0) = false ∧ (((ln y : Nat) : Int) == 0) = true) := by
      by_cases h : x = 0
      · left; rw [h, ln_zero]; rfl
      · right; refine ⟨by simp; exact fun h' => h (L1.out.1 h'), ?_⟩; rw [hx0.resolve_left h, ln_zero]; rfl
    clear hx0
    rcases ht with ht | ⟨ht, ht'⟩
    all_goals
      go_wp2_with fail
      obtain ⟨c0, c1, c2⟩ := tri ((tri_set r3 (.bool false) (.slice none 0 0) (.slice (some ⟨w3.heap.size, 0, none⟩) 1 1)).alloc (Obj.cells #[Value.int IntKind.u32 1] 36))
      refine bodyPost_ret (v := .agg #[.bool false, .slice none 0 0, .slice (some ⟨w3.heap.size, 0, none⟩) 1 1]) ?_ rfl ?_
      · simp [results, Try.results23, go_sem, c0, c1, c2]
      · rw [ldS, ldN, ldD, if_pos HX.out, if_pos HX.out, if_pos HX.out]
        refine ⟨_, rfl, ⟨none, 0, some ⟨w3.heap.size, 0, none⟩, 1, by rw [ln_zero, ln_one], NS.zero, ?_, by rw [ln_zero]; omega, by omega, by rw [ln_one]; omega, by omega⟩, ?_⟩
        · have hd : zs (digs 1) = [1] := by rw [digs_small (by omega) (by omega)]; rfl
          unfold NS
          rw [hd]
          refine SI.blk _ (t := 36) ?_ ?_
          · exact Blk.new' _ _ _ (by simp [World.setCell])
          · simp [World.setCell]
        · exact (up_tri U3 (by omega) _ _ _).alloc (by simp [World.setCell]; omega) _
  · have HX := Lib.hid hx0
    have ht : (((ln x : Nat) : Int) == 0) = false := by simp; exact fun h' => hx0 (Or.inl (L1.out.1 h'))
    have ht' : (((ln y : Nat) : Int) == 0) = false := by simp; exact fun h' => hx0 (Or.inr (L2.out.1 h'))
    clear hx0
    go_wp2_with fail
    obtain ⟨c0, c1, c2'⟩ := tri (tri_set r3 (.bool s) (.slice A2 (ln x) c2) (.slice A3 (ln y) c3))
    refine bodyPost_ret (v := .agg #[.bool s, .slice A2 (ln x) c2, .slice A3 (ln y) c3]) ?_ rfl ?_
    · simp [results, Try.results23, go_sem, c0, c1, c2']
    · rw [ldS, ldN, ldD, if_neg HX.out, if_neg HX.out, if_neg HX.out]
      exact ⟨_, rfl, ⟨A2, c2, A3, c3, rfl, (h23.up hb3).far r3 noint3 (only_tri _ _ _), h33.far r3 noint3 (only_tri _ _ _), h21, h22, h31, h32⟩, up_tri U3 (by omega) _ _ _⟩
end Go.Proofs.Ytoedmnalnpmleaa
