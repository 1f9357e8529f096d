/-
  RationalFloors, region 3: what has come up, and what it left. No walk here.
-/
import Derived.Test.YtefiapjfiojaoaaDoorSched5
import Derived.Test.YtefiapjfiojaoaaDoorPD
namespace Go.Proofs.YtefiapjfiojaoaaDoor
open Go Go.RowKit

def zeroCells : Array Value := #[.bool false, .slice none 0 0, .slice none 0 0]
def BoxAt (w : World) (base : Nat) (p : Value) (cs : Array Value) : Prop := ∃ g, p = .pointer (some ⟨g, 0, none⟩) ∧ base ≤ g ∧ Blk w g 24 cs
def BoxHold (w : World) (base : Nat) (p : Value) (q : Rat) : Prop := ∃ s A n c A' n' c', BoxAt w base p #[.bool s, .slice A n c, .slice A' n' c'] ∧ QV w (.agg #[.bool s, .slice A n c, .slice A' n' c']) q
theorem BoxAt.up {w w' : World} {b : Nat} {p : Value} {cs : Array Value} (h : BoxAt w b p cs) (u : Up w w') : BoxAt w' b p cs := by
  obtain ⟨g, h1, h2, h3⟩ := h
  exact ⟨g, h1, h2, h3.up u⟩
theorem BoxHold.up {w w' : World} {b : Nat} {p : Value} {q : Rat} (h : BoxHold w b p q) (u : Up w w') : BoxHold w' b p q := by
  obtain ⟨s, A, n, c, A', n', c', h1, h2⟩ := h
  exact ⟨s, A, n, c, A', n', c', h1.up u, h2.up u⟩
def stp (d : Nat → Bool) (i : Nat) : Nat → Bool := fun j => if j = i then true else d j

structure FS (w1 : World) (vx : Value) (q1 q2 q3 : Rat) (d : Nat → Bool) (x3 x4 x5 x9 x10 x11 x12 x13 : Value) (w : World) : Prop where
  up : Up w1 w
  e9 : d 0 = true → x9 = vx
  e10 : d 1 = true → QV w x10 q1
  e11 : d 2 = true → x11 = vx
  e12 : d 3 = true → QV w x12 q2
  e13 : d 4 = true → QV w x13 q3
  b3 : d 5 = true → d 8 = false → BoxAt w w1.heap.size x3 zeroCells
  b4 : d 6 = true → d 9 = false → BoxAt w w1.heap.size x4 zeroCells
  b5 : d 7 = true → d 10 = false → BoxAt w w1.heap.size x5 zeroCells
  h3 : d 8 = true → BoxHold w w1.heap.size x3 q1
  h4 : d 9 = true → BoxHold w w1.heap.size x4 q2
  h5 : d 10 = true → BoxHold w w1.heap.size x5 q3
  n34 : d 5 = true → d 6 = true → x3 ≠ x4
  n35 : d 5 = true → d 7 = true → x3 ≠ x5
  n45 : d 6 = true → d 7 = true → x4 ≠ x5
  i8 : d 8 = true → d 5 = true ∧ d 6 = true ∧ d 7 = true
  i9 : d 9 = true → d 8 = true
  i10 : d 10 = true → d 9 = true

variable {w1 w w' : World} {vx : Value} {q1 q2 q3 : Rat} {d : Nat → Bool} {x3 x4 x5 x9 x10 x11 x12 x13 v : Value}
theorem FS.mv (h : FS w1 vx q1 q2 q3 d x3 x4 x5 x9 x10 x11 x12 x13 w) (u : Up w w') : FS w1 vx q1 q2 q3 d x3 x4 x5 x9 x10 x11 x12 x13 w' :=
  ⟨h.up.trans u, h.e9, fun e => (h.e10 e).up u, h.e11, fun e => (h.e12 e).up u, fun e => (h.e13 e).up u, fun e f => (h.b3 e f).up u, fun e f => (h.b4 e f).up u, fun e f => (h.b5 e f).up u,
    fun e => (h.h3 e).up u, fun e => (h.h4 e).up u, fun e => (h.h5 e).up u, h.n34, h.n35, h.n45, h.i8, h.i9, h.i10⟩
theorem FS.start : FS w1 vx q1 q2 q3 (fun _ => false) x3 x4 x5 x9 x10 x11 x12 x13 w1.drew := by
  refine ⟨(Up.refl w1).drew, ?_, ?_, ?_, ?_, ?_, ?_, ?_, ?_, ?_, ?_, ?_, ?_, ?_, ?_, ?_, ?_, ?_⟩ <;> (intro e; cases e)
theorem FS.s0 (h : FS w1 vx q1 q2 q3 d x3 x4 x5 x9 x10 x11 x12 x13 w) : FS w1 vx q1 q2 q3 (stp d 0) x3 x4 x5 vx x10 x11 x12 x13 w :=
  ⟨h.up, fun _ => rfl, h.e10, h.e11, h.e12, h.e13, h.b3, h.b4, h.b5, h.h3, h.h4, h.h5, h.n34, h.n35, h.n45, h.i8, h.i9, h.i10⟩
theorem FS.s1 (h : FS w1 vx q1 q2 q3 d x3 x4 x5 x9 x10 x11 x12 x13 w) (hv : QV w v q1) : FS w1 vx q1 q2 q3 (stp d 1) x3 x4 x5 x9 v x11 x12 x13 w :=
  ⟨h.up, h.e9, fun _ => hv, h.e11, h.e12, h.e13, h.b3, h.b4, h.b5, h.h3, h.h4, h.h5, h.n34, h.n35, h.n45, h.i8, h.i9, h.i10⟩
theorem FS.s2 (h : FS w1 vx q1 q2 q3 d x3 x4 x5 x9 x10 x11 x12 x13 w) : FS w1 vx q1 q2 q3 (stp d 2) x3 x4 x5 x9 x10 vx x12 x13 w :=
  ⟨h.up, h.e9, h.e10, fun _ => rfl, h.e12, h.e13, h.b3, h.b4, h.b5, h.h3, h.h4, h.h5, h.n34, h.n35, h.n45, h.i8, h.i9, h.i10⟩
theorem FS.s3 (h : FS w1 vx q1 q2 q3 d x3 x4 x5 x9 x10 x11 x12 x13 w) (hv : QV w v q2) : FS w1 vx q1 q2 q3 (stp d 3) x3 x4 x5 x9 x10 x11 v x13 w :=
  ⟨h.up, h.e9, h.e10, h.e11, fun _ => hv, h.e13, h.b3, h.b4, h.b5, h.h3, h.h4, h.h5, h.n34, h.n35, h.n45, h.i8, h.i9, h.i10⟩
theorem FS.s4 (h : FS w1 vx q1 q2 q3 d x3 x4 x5 x9 x10 x11 x12 x13 w) (hv : QV w v q3) : FS w1 vx q1 q2 q3 (stp d 4) x3 x4 x5 x9 x10 x11 x12 v w :=
  ⟨h.up, h.e9, h.e10, h.e11, h.e12, fun _ => hv, h.b3, h.b4, h.b5, h.h3, h.h4, h.h5, h.n34, h.n35, h.n45, h.i8, h.i9, h.i10⟩
theorem FS.no8 (h : FS w1 vx q1 q2 q3 d x3 x4 x5 x9 x10 x11 x12 x13 w) {i : Nat} (hi : i = 5 ∨ i = 6 ∨ i = 7) (hd : d i = false) : d 8 = false ∧ d 9 = false ∧ d 10 = false := by
  have h8 : d 8 = false := by
    cases e : d 8 with
    | false => rfl
    | true =>
      obtain ⟨a, b, c⟩ := h.i8 e
      rcases hi with rfl | rfl | rfl
      · rw [a] at hd; cases hd
      · rw [b] at hd; cases hd
      · rw [c] at hd; cases hd
  have h9 : d 9 = false := by
    cases e : d 9 with
    | false => rfl
    | true => have := h.i9 e; rw [h8] at this; cases this
  refine ⟨h8, h9, ?_⟩
  cases e : d 10 with
  | false => rfl
  | true => have := h.i10 e; rw [h9] at this; cases this
theorem BoxAt.new (w : World) (b : Nat) (hb : b ≤ w.heap.size) : BoxAt (w.alloc (Obj.cells zeroCells 24)) b (.pointer (some ⟨w.heap.size, 0, none⟩)) zeroCells := ⟨_, rfl, hb, Blk.new w _ _⟩
theorem BoxAt.ne {w : World} {b : Nat} {p : Value} {cs : Array Value} (h : BoxAt w b p cs) : p ≠ .pointer (some ⟨w.heap.size, 0, none⟩) := by
  obtain ⟨g, rfl, _, h3⟩ := h
  have := h3.lt
  intro e
  injection e with e; injection e with e; injection e with e
  omega
theorem BoxAt.far3 {b g : Nat} {p : Value} {cs : Array Value} (h : BoxAt w b p cs) (hne : p ≠ .pointer (some ⟨g, 0, none⟩)) (x y z : Value) : BoxAt (((w.setCell ⟨g, 0, none⟩ x).setCell ⟨g, 1, none⟩ y).setCell ⟨g, 2, none⟩ z) b p cs := by
  obtain ⟨g', rfl, h2, h3⟩ := h
  have hn : g' ≠ g := fun e => hne (by rw [e])
  exact ⟨g', rfl, h2, ((h3.far (p := ⟨g, 0, none⟩) hn _).far (p := ⟨g, 1, none⟩) hn _).far (p := ⟨g, 2, none⟩) hn _⟩
theorem FS.s5 (h : FS w1 vx q1 q2 q3 d x3 x4 x5 x9 x10 x11 x12 x13 w) (hd : d 5 = false) : FS w1 vx q1 q2 q3 (stp d 5) (.pointer (some ⟨w.heap.size, 0, none⟩)) x4 x5 x9 x10 x11 x12 x13 (w.alloc (Obj.cells zeroCells 24)) := by
  have h' := h.mv (Below.alloc (Up.refl w) (Nat.le_refl _) (Obj.cells zeroCells 24))
  obtain ⟨z8, z9, z10⟩ := h.no8 (i := 5) (by omega) hd
  have c8 : ∀ {p : Prop}, d 8 = true → p := fun e => by rw [z8] at e; cases e
  have c9 : ∀ {p : Prop}, d 9 = true → p := fun e => by rw [z9] at e; cases e
  have c10 : ∀ {p : Prop}, d 10 = true → p := fun e => by rw [z10] at e; cases e
  exact ⟨h'.up, h'.e9, h'.e10, h'.e11, h'.e12, h'.e13, fun _ _ => BoxAt.new w _ (Below.size h.up), fun e f => h'.b4 e f, fun e f => h'.b5 e f, fun e => c8 e, fun e => c9 e, fun e => c10 e, fun _ e => (h.b4 e z9).ne.symm, fun _ e => (h.b5 e z10).ne.symm, h.n45, fun e => c8 e, fun e => c9 e, fun e => c10 e⟩
theorem FS.s6 (h : FS w1 vx q1 q2 q3 d x3 x4 x5 x9 x10 x11 x12 x13 w) (hd : d 6 = false) : FS w1 vx q1 q2 q3 (stp d 6) x3 (.pointer (some ⟨w.heap.size, 0, none⟩)) x5 x9 x10 x11 x12 x13 (w.alloc (Obj.cells zeroCells 24)) := by
  have h' := h.mv (Below.alloc (Up.refl w) (Nat.le_refl _) (Obj.cells zeroCells 24))
  obtain ⟨z8, z9, z10⟩ := h.no8 (i := 6) (by omega) hd
  have c8 : ∀ {p : Prop}, d 8 = true → p := fun e => by rw [z8] at e; cases e
  have c9 : ∀ {p : Prop}, d 9 = true → p := fun e => by rw [z9] at e; cases e
  have c10 : ∀ {p : Prop}, d 10 = true → p := fun e => by rw [z10] at e; cases e
  exact ⟨h'.up, h'.e9, h'.e10, h'.e11, h'.e12, h'.e13, fun e f => h'.b3 e f, fun _ _ => BoxAt.new w _ (Below.size h.up), fun e f => h'.b5 e f, fun e => c8 e, fun e => c9 e, fun e => c10 e, fun e _ => (h.b3 e z8).ne, h.n35, fun _ e => (h.b5 e z10).ne.symm, fun e => c8 e, fun e => c9 e, fun e => c10 e⟩
theorem FS.s7 (h : FS w1 vx q1 q2 q3 d x3 x4 x5 x9 x10 x11 x12 x13 w) (hd : d 7 = false) : FS w1 vx q1 q2 q3 (stp d 7) x3 x4 (.pointer (some ⟨w.heap.size, 0, none⟩)) x9 x10 x11 x12 x13 (w.alloc (Obj.cells zeroCells 24)) := by
  have h' := h.mv (Below.alloc (Up.refl w) (Nat.le_refl _) (Obj.cells zeroCells 24))
  obtain ⟨z8, z9, z10⟩ := h.no8 (i := 7) (by omega) hd
  have c8 : ∀ {p : Prop}, d 8 = true → p := fun e => by rw [z8] at e; cases e
  have c9 : ∀ {p : Prop}, d 9 = true → p := fun e => by rw [z9] at e; cases e
  have c10 : ∀ {p : Prop}, d 10 = true → p := fun e => by rw [z10] at e; cases e
  exact ⟨h'.up, h'.e9, h'.e10, h'.e11, h'.e12, h'.e13, fun e f => h'.b3 e f, fun e f => h'.b4 e f, fun _ _ => BoxAt.new w _ (Below.size h.up), fun e => c8 e, fun e => c9 e, fun e => c10 e, h.n34, fun e _ => (h.b3 e z8).ne, fun e _ => (h.b4 e z9).ne, fun e => c8 e, fun e => c9 e, fun e => c10 e⟩
theorem BoxAt.kp3 {b g : Nat} {p : Value} {c1 c2 c3 : Value} {s : Bool} {A A' : Option Addr} {n c n' c' : Nat} {q : Rat} (hp : p = .pointer (some ⟨g, 0, none⟩)) (h : BoxAt w b p zeroCells) {u : Value} (hq : QV w u q) :
    QV (((w.setCell ⟨g, 0, none⟩ (.bool s)).setCell ⟨g, 1, none⟩ (.slice A n c)).setCell ⟨g, 2, none⟩ (.slice A' n' c')) u q := by
  obtain ⟨g', e, _, h3⟩ := h
  rw [hp] at e
  injection e with e; injection e with e; injection e with e
  subst e
  exact QV.kp hq (Kp.tri (Kp.refl w) h3)
theorem BoxHold.far3 {b g : Nat} {p p' : Value} {q : Rat} (h : BoxHold w b p q) (hne : p ≠ .pointer (some ⟨g, 0, none⟩)) (hp : p' = .pointer (some ⟨g, 0, none⟩)) (h' : BoxAt w b p' zeroCells) (s : Bool) (A A' : Option Addr) (n c n' c' : Nat) :
    BoxHold (((w.setCell ⟨g, 0, none⟩ (.bool s)).setCell ⟨g, 1, none⟩ (.slice A n c)).setCell ⟨g, 2, none⟩ (.slice A' n' c')) b p q := by
  obtain ⟨s1, A1, n1, c1, A2, n2, c2, h1, h2⟩ := h
  exact ⟨s1, A1, n1, c1, A2, n2, c2, h1.far3 hne _ _ _, BoxAt.kp3 (c1 := p) (c2 := p) (c3 := p) hp h' h2⟩
theorem BoxAt.store {b g : Nat} {p : Value} {s : Bool} {A A' : Option Addr} {n c n' c' : Nat} {q : Rat} (hp : p = .pointer (some ⟨g, 0, none⟩)) (h : BoxAt w b p zeroCells) (hq : QV w (.agg #[.bool s, .slice A n c, .slice A' n' c']) q) :
    BoxHold (((w.setCell ⟨g, 0, none⟩ (.bool s)).setCell ⟨g, 1, none⟩ (.slice A n c)).setCell ⟨g, 2, none⟩ (.slice A' n' c')) b p q := by
  have hk := BoxAt.kp3 (c1 := p) (c2 := p) (c3 := p) (s := s) (A := A) (A' := A') (n := n) (c := c) (n' := n') (c' := c') hp h hq
  obtain ⟨g', e, hb, h3⟩ := h
  rw [hp] at e
  injection e with e; injection e with e; injection e with e
  subst e
  exact ⟨s, A, n, c, A', n', c', ⟨g, hp, hb, tri_set h3 _ _ _⟩, hk⟩
theorem BoxAt.upset {b g : Nat} {p : Value} {x y z : Value} (hp : p = .pointer (some ⟨g, 0, none⟩)) (h : BoxAt w w1.heap.size p zeroCells) (hu : Up w1 w) : Up w1 (((w.setCell ⟨g, 0, none⟩ x).setCell ⟨g, 1, none⟩ y).setCell ⟨g, 2, none⟩ z) := by
  obtain ⟨g', e, hb, h3⟩ := h
  rw [hp] at e
  injection e with e; injection e with e; injection e with e
  subst e
  exact up_tri hu hb _ _ _
theorem FS.s8 (h : FS w1 vx q1 q2 q3 d x3 x4 x5 x9 x10 x11 x12 x13 w) {g : Nat} {s : Bool} {A A' : Option Addr} {n c n' c' : Nat} (hp : x3 = .pointer (some ⟨g, 0, none⟩)) (hv : x10 = .agg #[.bool s, .slice A n c, .slice A' n' c'])
    (d5 : d 5 = true) (d6 : d 6 = true) (d7 : d 7 = true) (dv : d 1 = true) (h8 : d 8 = false) :
    FS w1 vx q1 q2 q3 (stp d 8) x3 x4 x5 x9 x10 x11 x12 x13 (((w.setCell ⟨g, 0, none⟩ (.bool s)).setCell ⟨g, 1, none⟩ (.slice A n c)).setCell ⟨g, 2, none⟩ (.slice A' n' c')) := by
  have h9 : d 9 = false := by
    cases e : d 9 with
    | false => rfl
    | true => have := h.i9 e; rw [h8] at this; cases this
  have h10 : d 10 = false := by
    cases e : d 10 with
    | false => rfl
    | true => have := h.i10 e; rw [h9] at this; cases this
  have hb := h.b3 d5 h8
  have hq := h.e10 dv
  rw [hv] at hq
  exact ⟨BoxAt.upset (b := 0) hp hb h.up, h.e9, fun e => BoxAt.kp3 (c1 := x3) (c2 := x3) (c3 := x3) hp hb (h.e10 e), h.e11, fun e => BoxAt.kp3 (c1 := x3) (c2 := x3) (c3 := x3) hp hb (h.e12 e), fun e => BoxAt.kp3 (c1 := x3) (c2 := x3) (c3 := x3) hp hb (h.e13 e), fun _ e => (by cases e), fun e f => (h.b4 e f).far3 (by rw [← hp]; exact (h.n34 d5 d6).symm) _ _ _, fun e f => (h.b5 e f).far3 (by rw [← hp]; exact (h.n35 d5 d7).symm) _ _ _, fun _ => BoxAt.store hp hb hq, fun e => (h.h4 e).far3 (by rw [← hp]; exact (h.n34 d5 d6).symm) hp hb _ _ _ _ _ _ _, fun e => (h.h5 e).far3 (by rw [← hp]; exact (h.n35 d5 d7).symm) hp hb _ _ _ _ _ _ _, h.n34, h.n35, h.n45, fun _ => ⟨d5, d6, d7⟩, fun _ => rfl, h.i10⟩
theorem FS.s9 (h : FS w1 vx q1 q2 q3 d x3 x4 x5 x9 x10 x11 x12 x13 w) {g : Nat} {s : Bool} {A A' : Option Addr} {n c n' c' : Nat} (hp : x4 = .pointer (some ⟨g, 0, none⟩)) (hv : x12 = .agg #[.bool s, .slice A n c, .slice A' n' c'])
    (d5 : d 5 = true) (d6 : d 6 = true) (d7 : d 7 = true) (dv : d 3 = true) (h8 : d 8 = true) (h9 : d 9 = false) :
    FS w1 vx q1 q2 q3 (stp d 9) x3 x4 x5 x9 x10 x11 x12 x13 (((w.setCell ⟨g, 0, none⟩ (.bool s)).setCell ⟨g, 1, none⟩ (.slice A n c)).setCell ⟨g, 2, none⟩ (.slice A' n' c')) := by
  have h10 : d 10 = false := by
    cases e : d 10 with
    | false => rfl
    | true => have := h.i10 e; rw [h9] at this; cases this
  have hb := h.b4 d6 h9
  have hq := h.e12 dv
  rw [hv] at hq
  exact ⟨BoxAt.upset (b := 0) hp hb h.up, h.e9, fun e => BoxAt.kp3 (c1 := x4) (c2 := x4) (c3 := x4) hp hb (h.e10 e), h.e11, fun e => BoxAt.kp3 (c1 := x4) (c2 := x4) (c3 := x4) hp hb (h.e12 e), fun e => BoxAt.kp3 (c1 := x4) (c2 := x4) (c3 := x4) hp hb (h.e13 e), fun e f => (h.b3 e f).far3 (by rw [← hp]; exact (h.n34 d5 d6)) _ _ _, fun _ e => (by cases e), fun e f => (h.b5 e f).far3 (by rw [← hp]; exact (h.n45 d6 d7).symm) _ _ _, fun e => (h.h3 e).far3 (by rw [← hp]; exact (h.n34 d5 d6)) hp hb _ _ _ _ _ _ _, fun _ => BoxAt.store hp hb hq, fun e => (h.h5 e).far3 (by rw [← hp]; exact (h.n45 d6 d7).symm) hp hb _ _ _ _ _ _ _, h.n34, h.n35, h.n45, h.i8, fun _ => h8, fun _ => rfl⟩
theorem FS.s10 (h : FS w1 vx q1 q2 q3 d x3 x4 x5 x9 x10 x11 x12 x13 w) {g : Nat} {s : Bool} {A A' : Option Addr} {n c n' c' : Nat} (hp : x5 = .pointer (some ⟨g, 0, none⟩)) (hv : x13 = .agg #[.bool s, .slice A n c, .slice A' n' c'])
    (d5 : d 5 = true) (d6 : d 6 = true) (d7 : d 7 = true) (dv : d 4 = true) (h9 : d 9 = true) (h10 : d 10 = false) :
    FS w1 vx q1 q2 q3 (stp d 10) x3 x4 x5 x9 x10 x11 x12 x13 (((w.setCell ⟨g, 0, none⟩ (.bool s)).setCell ⟨g, 1, none⟩ (.slice A n c)).setCell ⟨g, 2, none⟩ (.slice A' n' c')) := by
  have h8 := h.i9 h9
  have hb := h.b5 d7 h10
  have hq := h.e13 dv
  rw [hv] at hq
  exact ⟨BoxAt.upset (b := 0) hp hb h.up, h.e9, fun e => BoxAt.kp3 (c1 := x5) (c2 := x5) (c3 := x5) hp hb (h.e10 e), h.e11, fun e => BoxAt.kp3 (c1 := x5) (c2 := x5) (c3 := x5) hp hb (h.e12 e), fun e => BoxAt.kp3 (c1 := x5) (c2 := x5) (c3 := x5) hp hb (h.e13 e), fun e f => (h.b3 e f).far3 (by rw [← hp]; exact (h.n35 d5 d7)) _ _ _, fun e f => (h.b4 e f).far3 (by rw [← hp]; exact (h.n45 d6 d7)) _ _ _, fun _ e => (by cases e), fun e => (h.h3 e).far3 (by rw [← hp]; exact (h.n35 d5 d7)) hp hb _ _ _ _ _ _ _, fun e => (h.h4 e).far3 (by rw [← hp]; exact (h.n45 d6 d7)) hp hb _ _ _ _ _ _ _, fun _ => BoxAt.store hp hb hq, h.n34, h.n35, h.n45, h.i8, h.i9, fun _ => h9⟩
end Go.Proofs.YtefiapjfiojaoaaDoor
