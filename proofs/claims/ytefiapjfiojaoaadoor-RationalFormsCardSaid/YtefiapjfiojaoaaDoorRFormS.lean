/-
  RationalForms, the two regions that make the product by the factor: what has come up, and what it left. No walk here.
-/
import Derived.Test.YtefiapjfiojaoaaDoorRFloorS
import Derived.Test.YtefiapjfiojaoaaDoorPD
import Derived.Test.YtefiapjfiojaoaaDoorRZeros
namespace Go.Proofs.YtefiapjfiojaoaaDoor
open Go Go.RowKit

theorem fq_scale (s : Bool) (n d f : Nat) (hd : d ≠ 0) (hf : f ≠ 0) : fq s (n * f) (d * f) = fq s n d := by
  have h := fq_mul s false n d f f
  have e : fq false f f = 1 := by
    rw [fq_div]
    have hf' : (f : Rat) ≠ 0 := by
      intro h
      exact hf (by exact_mod_cast h)
    simp
    grind
  rw [e] at h
  rw [Rat.mul_one] at h
  rw [h]
  cases s <;> rfl
theorem fq_of' {w : World} {s : Bool} {X Y : Option Addr} {n d cx cy B : Nat} (x1 : ln n ≤ cx) (x2 : cx ≤ 9223372036854775807) (x3 : NS w X n) (y1 : ln d ≤ cy) (y2 : cy ≤ 9223372036854775807) (y3 : NS w Y d) (hd : d ≠ 0) (hn : ln n ≤ B) (hl : ln d ≤ B) :
    FQ w (.agg #[.bool s, .slice X (ln n) cx, .slice Y (ln d) cy]) (fq s n d) B :=
  ⟨s, n, d, ⟨X, cx, Y, cy, rfl, x3, y3, x1, x2, y1, y2⟩, hd, hn, hl, rfl⟩
theorem prod_nat {q : Rat} {n f : Nat} (h : q = (n : Rat) * ((f : Int) : Rat)) : q = ((n * f : Nat) : Rat) := by
  rw [h, Rat.intCast_natCast, Rat.natCast_mul]
theorem prod_num {q : Rat} {n : Nat} (h : q = (n : Rat)) : q.num.natAbs = n ∧ decide (q.num < 0) = false ∧ q.den = 1 := by
  subst h
  have e : ((n : Nat) : Rat).num = (n : Int) := by simp
  rw [e]
  refine ⟨by simp, decide_eq_false (by omega), by simp⟩

/-- The slice of the one limb 1. -/
def OneAt (w : World) (v : Value) : Prop := ∃ g, v = .slice (some ⟨g, 0, none⟩) 1 1 ∧ Blk w g 25 #[.int .u32 1]
theorem OneAt.up {w w' : World} {v : Value} (h : OneAt w v) (u : Up w w') : OneAt w' v := by
  obtain ⟨g, h1, h2⟩ := h
  exact ⟨g, h1, h2.up u⟩
/-- A limb slice over one is a whole number. -/
theorem whole_iv {w : World} {A : Option Addr} {n l c : Nat} {v : Value} (h1 : NS w A n) (e : l = ln n) (h2 : ln n ≤ c) (h3 : c ≤ 9223372036854775807) (hl : ln n ≤ 10) (h4 : OneAt w v) : IV w (.agg #[.bool false, .slice A l c, v]) (n : Rat) 10 := by
  obtain ⟨g, rfl, hb⟩ := h4
  have l1 : ln 1 = 1 := by rw [ln, digs_small (by omega) (by omega)]; rfl
  have h := fq_of' (s := false) (d := 1) (cy := 1) h2 h3 h1 (by omega) (by omega) (NS.lit1 hb) (by omega) hl (by omega)
  rw [l1, fq_nat] at h
  rw [e]
  exact h.iv
theorem num_of {w : World} {s : Bool} {A A' : Option Addr} {n c n' c' : Nat} {q : Rat} (h : QV w (.agg #[.bool s, .slice A n c, .slice A' n' c']) q) (hq : qs q ≤ 10) :
    NS w A q.num.natAbs ∧ n = ln q.num.natAbs ∧ ln q.num.natAbs ≤ c ∧ c ≤ 9223372036854775807 ∧ ln q.num.natAbs ≤ 10 := by
  obtain ⟨_, h2, _, h4, _, h6, h7, _⟩ := h.opened
  exact ⟨h4, h2, h6, h7, Nat.le_trans (qs_num q) hq⟩
theorem den_of {w : World} {s : Bool} {A A' : Option Addr} {n c n' c' : Nat} {q : Rat} (h : QV w (.agg #[.bool s, .slice A n c, .slice A' n' c']) q) (hq : qs q ≤ 10) :
    NS w A' q.den ∧ n' = ln q.den ∧ ln q.den ≤ c' ∧ c' ≤ 9223372036854775807 ∧ ln q.den ≤ 10 := by
  obtain ⟨_, _, h2, _, h4, _, _, h6, h7⟩ := h.opened
  exact ⟨h4, h2, h6, h7, Nat.le_trans (qs_den q) hq⟩
theorem zs_more (ys : List Nat) (Z : Nat) : zs (ys ++ List.replicate Z 0) = ([] ++ zs ys) ++ List.replicate Z 0 := by simp [zs]
/-- A row appended onto nothing, then zeros. -/
theorem app_two {w w2 w3 : World} {e : TypeId} {v2 v3 : Value} {ys : List Nat} {Z : Nat} (h2 : Appended w w2 w.heap.size e .u32 (.slice none 0 0) v2 ([] ++ zs ys)) (h3 : Appended w2 w3 w.heap.size e .u32 v2 v3 (([] ++ zs ys) ++ List.replicate Z 0)) :
    Up w w3 ∧ ∃ A l c, v3 = .slice A l c ∧ l = (ys ++ List.replicate Z 0).length ∧ SI w3 w3.heap.size .u32 A (zs (ys ++ List.replicate Z 0)) ∧ l ≤ c ∧ c ≤ 9223372036854775807 := by
  have u2 : Up w w2 := h2.below (Up.refl w) OI.nil_ (Nat.le_refl _)
  have u3 : Up w w3 := h3.below u2 h2.own u2.size
  obtain ⟨A, c, e1, e2, e3, e4, _⟩ := h3.own.form
  rw [← zs_more] at e1 e2 e4
  rw [zs_length] at e1 e2
  exact ⟨u3, A, _, c, e1, rfl, e4, e2, by simpa [maxLen] using e3⟩
theorem prod_slice {w : World} {s : Bool} {A A' : Option Addr} {n c n' c' : Nat} {q : Rat} {N F : Nat} (h : QV w (.agg #[.bool s, .slice A n c, .slice A' n' c']) q) (hq : q = (N : Rat) * ((F : Int) : Rat)) :
    SI w w.heap.size .u32 A (zs (digs (N * F))) ∧ n = (zs (digs (N * F))).length := by
  obtain ⟨_, h2, _, h4, _, h6, h7, _⟩ := h.opened
  have e := (prod_num (prod_nat hq)).1
  rw [e] at h2 h4
  exact ⟨h4, by rw [h2, zs_length]; rfl⟩
theorem ln_prod {N F : Nat} (h1 : ln N ≤ 9) (h2 : F ≤ 1000) : ln (N * F) ≤ 10 := by
  have h3 : ln F ≤ 1 := ln_le.2 (by omega)
  have := ln_mul N F
  omega
theorem forms_iv {w : World} {x : Rat} {s : Bool} {A B : Option Addr} {la lb ca cb N D F Z : Nat} (hs : s = decide (x.num < 0)) (hN : N = x.num.natAbs) (hD : D = x.den) (hF : F ≠ 0) (hF' : F ≤ 1000) (hq : qs x ≤ 9) (hZ : Z ≤ 3)
    (ea : la = (digs (N * F) ++ List.replicate Z 0).length) (eb : lb = (digs (D * F) ++ List.replicate Z 0).length)
    (sA : SI w w.heap.size .u32 A (zs (digs (N * F) ++ List.replicate Z 0))) (sB : SI w w.heap.size .u32 B (zs (digs (D * F) ++ List.replicate Z 0)))
    (a1 : la ≤ ca) (a2 : ca ≤ 9223372036854775807) (b1 : lb ≤ cb) (b2 : cb ≤ 9223372036854775807) : IV w (.agg #[.bool s, .slice A la ca, .slice B lb cb]) x 13 := by
  have l1 := ln_prod (F := F) (show ln N ≤ 9 by rw [hN]; exact Nat.le_trans (qs_num x) hq) hF'
  have l2 := ln_prod (F := F) (show ln D ≤ 9 by rw [hD]; exact Nat.le_trans (qs_den x) hq) hF'
  have lt32 : ∀ M : Nat, ∀ a ∈ digs M ++ List.replicate Z 0, a < 4294967296 := fun M a ha => by
    rcases List.mem_append.1 ha with h | h
    · exact lt32_digs M a h
    · rw [(List.mem_replicate.1 h).2]; omega
  have len : ∀ M : Nat, (digs M ++ List.replicate Z 0).length = ln M + Z := fun M => by rw [List.length_append, List.length_replicate]; rfl
  subst ea eb
  refine ⟨s, _, _, ⟨A, ca, B, cb, rfl, sA, sB, lt32 _, lt32 _, a1, a2, b1, b2⟩, by rw [len]; omega, by rw [len]; omega, ?_⟩
  rw [nv_zeros, nv_zeros, nv_digs, nv_digs, fq_scale s N D F (by rw [hD]; exact x.den_nz) hF, hs, hN, hD, fq_self]

theorem SI.kp_only {w w' : World} {K : IntKind} {A : Option Addr} {l : List Int} (h : SI w w.heap.size K A l) (hk : Kp w w') : SI w' w'.heap.size K A l := SI.more (SI.kp h hk) hk.1
theorem SI.up_kp {w w2 w' : World} {K : IntKind} {A : Option Addr} {l : List Int} (h : SI w w.heap.size K A l) (u : Up w w2) (hk : Kp w2 w') : SI w' w'.heap.size K A l := SI.kp_only (SI.up h u) hk

structure GS (w1 : World) (p47 v48 : Value) (n f : Nat) (q : Rat) (d : Nat → Bool) (x47 x48 x49 x50 x51 x52 x53 x54 x11 : Value) (w : World) : Prop where
  up : Up w1 w
  e47 : d 0 = true → x47 = p47
  e48 : d 1 = true → x48 = v48
  e49 : d 2 = true → OneAt w x49
  e50 : d 3 = true → IV w x50 (n : Rat) 10
  e51 : d 4 = true → x51 = .int .u32 f
  e52 : d 5 = true → x52 = .int .i64 f
  e53 : d 6 = true → QV w x53 ((f : Int) : Rat)
  e54 : d 7 = true → QV w x54 q
  b11 : d 8 = true → BoxAt w w1.heap.size x11 zeroCells

variable {w1 w w' : World} {p47 v48 : Value} {n f : Nat} {q : Rat} {d : Nat → Bool} {x47 x48 x49 x50 x51 x52 x53 x54 x11 v : Value}
theorem GS.mv (h : GS w1 p47 v48 n f q d x47 x48 x49 x50 x51 x52 x53 x54 x11 w) (u : Up w w') : GS w1 p47 v48 n f q d x47 x48 x49 x50 x51 x52 x53 x54 x11 w' :=
  ⟨h.up.trans u, h.e47, h.e48, fun e => (h.e49 e).up u, fun e => (h.e50 e).up u, h.e51, h.e52, fun e => (h.e53 e).up u, fun e => (h.e54 e).up u, fun e => (h.b11 e).up u⟩
theorem GS.start : GS w1 p47 v48 n f q (fun _ => false) x47 x48 x49 x50 x51 x52 x53 x54 x11 w1.drew := by
  refine ⟨(Up.refl w1).drew, ?_, ?_, ?_, ?_, ?_, ?_, ?_, ?_, ?_⟩ <;> (intro e; cases e)
theorem GS.s0 (h : GS w1 p47 v48 n f q d x47 x48 x49 x50 x51 x52 x53 x54 x11 w) : GS w1 p47 v48 n f q (stp d 0) p47 x48 x49 x50 x51 x52 x53 x54 x11 w :=
  ⟨h.up, fun _ => rfl, h.e48, h.e49, h.e50, h.e51, h.e52, h.e53, h.e54, h.b11⟩
theorem GS.s1 (h : GS w1 p47 v48 n f q d x47 x48 x49 x50 x51 x52 x53 x54 x11 w) : GS w1 p47 v48 n f q (stp d 1) x47 v48 x49 x50 x51 x52 x53 x54 x11 w :=
  ⟨h.up, h.e47, fun _ => rfl, h.e49, h.e50, h.e51, h.e52, h.e53, h.e54, h.b11⟩
theorem GS.s2 (h : GS w1 p47 v48 n f q d x47 x48 x49 x50 x51 x52 x53 x54 x11 w) :
    GS w1 p47 v48 n f q (stp d 2) x47 x48 (.slice (some ⟨w.heap.size, 0, none⟩) 1 1) x50 x51 x52 x53 x54 x11 (w.alloc (Obj.cells #[.int .u32 1] 25)) := by
  have h' := h.mv (Below.alloc (Up.refl w) (Nat.le_refl _) (Obj.cells #[.int .u32 1] 25))
  exact ⟨h'.up, h'.e47, h'.e48, fun _ => ⟨_, rfl, Blk.new w _ _⟩, h'.e50, h'.e51, h'.e52, h'.e53, h'.e54, h'.b11⟩
theorem GS.s3 (h : GS w1 p47 v48 n f q d x47 x48 x49 x50 x51 x52 x53 x54 x11 w) (hv : IV w v (n : Rat) 10) : GS w1 p47 v48 n f q (stp d 3) x47 x48 x49 v x51 x52 x53 x54 x11 w :=
  ⟨h.up, h.e47, h.e48, h.e49, fun _ => hv, h.e51, h.e52, h.e53, h.e54, h.b11⟩
theorem GS.s4 (h : GS w1 p47 v48 n f q d x47 x48 x49 x50 x51 x52 x53 x54 x11 w) : GS w1 p47 v48 n f q (stp d 4) x47 x48 x49 x50 (.int .u32 f) x52 x53 x54 x11 w :=
  ⟨h.up, h.e47, h.e48, h.e49, h.e50, fun _ => rfl, h.e52, h.e53, h.e54, h.b11⟩
theorem GS.s5 (h : GS w1 p47 v48 n f q d x47 x48 x49 x50 x51 x52 x53 x54 x11 w) : GS w1 p47 v48 n f q (stp d 5) x47 x48 x49 x50 x51 (.int .i64 f) x53 x54 x11 w :=
  ⟨h.up, h.e47, h.e48, h.e49, h.e50, h.e51, fun _ => rfl, h.e53, h.e54, h.b11⟩
theorem GS.s6 (h : GS w1 p47 v48 n f q d x47 x48 x49 x50 x51 x52 x53 x54 x11 w) (hv : QV w v ((f : Int) : Rat)) : GS w1 p47 v48 n f q (stp d 6) x47 x48 x49 x50 x51 x52 v x54 x11 w :=
  ⟨h.up, h.e47, h.e48, h.e49, h.e50, h.e51, h.e52, fun _ => hv, h.e54, h.b11⟩
theorem GS.s7 (h : GS w1 p47 v48 n f q d x47 x48 x49 x50 x51 x52 x53 x54 x11 w) (hv : QV w v q) : GS w1 p47 v48 n f q (stp d 7) x47 x48 x49 x50 x51 x52 x53 v x11 w :=
  ⟨h.up, h.e47, h.e48, h.e49, h.e50, h.e51, h.e52, h.e53, fun _ => hv, h.b11⟩
theorem GS.s8 (h : GS w1 p47 v48 n f q d x47 x48 x49 x50 x51 x52 x53 x54 x11 w) :
    GS w1 p47 v48 n f q (stp d 8) x47 x48 x49 x50 x51 x52 x53 x54 (.pointer (some ⟨w.heap.size, 0, none⟩)) (w.alloc (Obj.cells zeroCells 24)) := by
  have h' := h.mv (Below.alloc (Up.refl w) (Nat.le_refl _) (Obj.cells zeroCells 24))
  exact ⟨h'.up, h'.e47, h'.e48, h'.e49, h'.e50, h'.e51, h'.e52, h'.e53, h'.e54, fun _ => BoxAt.new w _ (Below.size h.up)⟩
/-- What has come up, the store last of all. -/
def GC (w1 : World) (p47 v48 : Value) (n f : Nat) (q : Rat) (d : Nat → Bool) (x47 x48 x49 x50 x51 x52 x53 x54 x11 : Value) (w : World) : Prop :=
  (d 9 = false ∧ GS w1 p47 v48 n f q d x47 x48 x49 x50 x51 x52 x53 x54 x11 w) ∨ ((∀ j, j < 10 → d j = true) ∧ Up w1 w ∧ BoxHold w w1.heap.size x11 q)
theorem GC.start : GC w1 p47 v48 n f q (fun _ => false) x47 x48 x49 x50 x51 x52 x53 x54 x11 w1.drew := .inl ⟨rfl, GS.start⟩
theorem GC.gs (h : GC w1 p47 v48 n f q d x47 x48 x49 x50 x51 x52 x53 x54 x11 w) {i : Nat} (hi : i < 10) (hd : d i = false) : d 9 = false ∧ GS w1 p47 v48 n f q d x47 x48 x49 x50 x51 x52 x53 x54 x11 w := by
  rcases h with h | ⟨h, _⟩
  · exact h
  · rw [h i hi] at hd; cases hd
theorem GC.fin (h : GC w1 p47 v48 n f q d x47 x48 x49 x50 x51 x52 x53 x54 x11 w) (hd : d 9 = true) : Up w1 w ∧ BoxHold w w1.heap.size x11 q := by
  rcases h with ⟨h, _⟩ | ⟨_, h⟩
  · rw [hd] at h; cases h
  · exact h
theorem GS.gc {i : Nat} (h : GS w1 p47 v48 n f q (stp d i) x47 x48 x49 x50 x51 x52 x53 x54 x11 w) (hi : i ≠ 9) (hd : d 9 = false) : GC w1 p47 v48 n f q (stp d i) x47 x48 x49 x50 x51 x52 x53 x54 x11 w :=
  .inl ⟨(if_neg (fun e => hi e.symm)).trans hd, h⟩
theorem GS.s9 (h : GS w1 p47 v48 n f q d x47 x48 x49 x50 x51 x52 x53 x54 x11 w) {g : Nat} {s : Bool} {A A' : Option Addr} {l c l' c' : Nat} (hp : x11 = .pointer (some ⟨g, 0, none⟩)) (hv : x54 = .agg #[.bool s, .slice A l c, .slice A' l' c'])
    (hall : ∀ i, i < 9 → d i = true) : GC w1 p47 v48 n f q (stp d 9) x47 x48 x49 x50 x51 x52 x53 x54 x11 (((w.setCell ⟨g, 0, none⟩ (.bool s)).setCell ⟨g, 1, none⟩ (.slice A l c)).setCell ⟨g, 2, none⟩ (.slice A' l' c')) := by
  have hb := h.b11 (hall 8 (by omega))
  have hq := h.e54 (hall 7 (by omega))
  rw [hv] at hq
  refine .inr ⟨fun j hj => ?_, BoxAt.upset (b := 0) hp hb h.up, BoxAt.store hp hb hq⟩
  by_cases e : j = 9
  · exact if_pos e
  · exact (if_neg e).trans (hall j (by omega))
end Go.Proofs.YtefiapjfiojaoaaDoor
