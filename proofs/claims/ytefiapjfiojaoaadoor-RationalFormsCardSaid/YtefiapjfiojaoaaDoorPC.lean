/-
  PC: RLoad, RLow, RInt, RSign, RSmall, Quo, RVal, RKeep, RPlus, ROps.
-/
import Derived.Test.YtefiapjfiojaoaaDoorPB
import Derived.Test.YtefiapjfiojaoaaDoorPA
/-
  Rational numbers as values: load.
-/
namespace Go.Proofs.YtefiapjfiojaoaaDoor
open Go.RowKit

/-- A rational as it comes in: a sign and two slices of whatever words. -/
def RV (w : World) (v : Value) (s : Bool) (xs ys : List Nat) : Prop :=
  ∃ A ca B cb, v = .agg #[.bool s, .slice A xs.length ca, .slice B ys.length cb] ∧ SI w w.heap.size .u32 A (zs xs) ∧ SI w w.heap.size .u32 B (zs ys) ∧
    (∀ a ∈ xs, a < 4294967296) ∧ (∀ a ∈ ys, a < 4294967296) ∧ xs.length ≤ ca ∧ ca ≤ 9223372036854775807 ∧ ys.length ≤ cb ∧ cb ≤ 9223372036854775807
/-- A fraction with the sign s, the numerator n and the denominator d. -/
def FV (w : World) (v : Value) (s : Bool) (n d : Nat) : Prop :=
  ∃ A ca B cb, v = .agg #[.bool s, .slice A (ln n) ca, .slice B (ln d) cb] ∧ NS w A n ∧ NS w B d ∧ ln n ≤ ca ∧ ca ≤ 9223372036854775807 ∧ ln d ≤ cb ∧ cb ≤ 9223372036854775807
theorem FV.up {w w' : World} {v : Value} {s : Bool} {n d : Nat} (h : FV w v s n d) (hu : Up w w') : FV w' v s n d := by
  obtain ⟨A, ca, B, cb, h1, h2, h3, h4⟩ := h
  exact ⟨A, ca, B, cb, h1, h2.up hu, h3.up hu, h4⟩
theorem RV.up {w w' : World} {v : Value} {s : Bool} {xs ys : List Nat} (h : RV w v s xs ys) (hu : Up w w') : RV w' v s xs ys := by
  obtain ⟨A, ca, B, cb, h1, h2, h3, h4⟩ := h
  exact ⟨A, ca, B, cb, h1, SI.up h2 hu, SI.up h3 hu, h4⟩
/-- A call returns such a fraction, and writes nothing that was there. -/
def RetF (w0 : World) (s : Bool) (n d : Nat) (e : Ending) (w' : World) : Prop := ∃ v, e = .returned v ∧ FV w' v s n d ∧ Up w0 w'
theorem tri {w : World} {g : Nat} {t : TypeId} {a b c : Value} (h : Blk w g t #[a, b, c]) : w.cell? ⟨g, 0, none⟩ = some a ∧ w.cell? ⟨g, 1, none⟩ = some b ∧ w.cell? ⟨g, 2, none⟩ = some c := by
  have c0 := h.cell 0
  have c1 := h.cell 1
  have c2 := h.cell 2
  simp at c0 c1 c2
  exact ⟨c0, c1, c2⟩

theorem only_alloc {a w : World} {row : Option Nat} (h : a.grownBy w row) (o : Obj) : a.grownBy (w.alloc o) row :=
  ⟨h.os, h.tape, h.output, by have := h.size; simp; omega, fun i hi hne => (Below.heap_alloc w o i (Nat.lt_of_lt_of_le hi h.size)).trans (h.block i hi hne)⟩
/-- Limbs do not lie in a block that holds no number. -/
theorem NS.far {w w' : World} {A : Option Addr} {x g : Nat} {t : TypeId} {cs : Array Value} (h : NS w A x) (hb : Blk w g t cs) (hc : ∀ (i : Nat) (k : IntKind) (z : Int), cs[i]? ≠ some (Value.int k z)) (ho : w.grownBy w' (some g)) : NS w' A x := by
  intro h0
  obtain ⟨ad, e, hl, hcell⟩ := h h0
  have hne : ad.block ≠ g := by
    intro hg
    have h1 := hcell 0 h0
    have h2 : ad.add 0 = ad := by simp [Addr.add]
    rw [h2] at h1
    unfold World.cell? at h1
    unfold Blk at hb
    rw [hg, hb] at h1
    simp only at h1
    split at h1
    · cases h1
    · exact hc _ _ _ h1
  refine ⟨ad, e, Nat.lt_of_lt_of_le hl ho.size, fun j hj => ?_⟩
  rw [← hcell j hj]
  unfold World.cell?
  rw [block_of_add, ho.block ad.block hl (by simp; exact hne)]
theorem noint3 {b : Bool} {A B : Option Addr} {l c l' c' : Nat} : ∀ (i : Nat) (k : IntKind) (z : Int), (#[Value.bool b, .slice A l c, .slice B l' c'] : Array Value)[i]? ≠ some (Value.int k z)
  | 0, _, _ => by simp
  | 1, _, _ => by simp
  | 2, _, _ => by simp
  | n + 3, _, _ => by simp
theorem tri_set {w : World} {g : Nat} {t : TypeId} {a b c : Value} (h : Blk w g t #[a, b, c]) (x y z : Value) : Blk (((w.setCell ⟨g, 0, none⟩ x).setCell ⟨g, 1, none⟩ y).setCell ⟨g, 2, none⟩ z) g t #[x, y, z] :=
  ((h.set_ 0 x).set_ 1 y).set_ 2 z
theorem up_tri {w w1 : World} {g : Nat} (h : Up w w1) (hg : w.heap.size ≤ g) (x y z : Value) : Up w (((w1.setCell ⟨g, 0, none⟩ x).setCell ⟨g, 1, none⟩ y).setCell ⟨g, 2, none⟩ z) := by
  refine Below.setCell (Below.setCell (Below.setCell h ?_ _) ?_ _) ?_ _
  all_goals (simp; omega)
theorem only_tri {w : World} {g : Nat} (x y z : Value) : w.grownBy (((w.setCell ⟨g, 0, none⟩ x).setCell ⟨g, 1, none⟩ y).setCell ⟨g, 2, none⟩ z) (some g) :=
  by
  have h0 : w.grownBy w (some g) := ⟨rfl, rfl, rfl, Nat.le_refl _, fun _ _ _ => rfl⟩
  have h1 := only_setCell h0 (p := ⟨g, 0, none⟩) rfl x
  have h2 := only_setCell h1 (p := ⟨g, 1, none⟩) rfl y
  exact only_setCell h2 (p := ⟨g, 2, none⟩) rfl z
/-- What is loaded: a number with a zero in it is 0 / 1. -/
def ldS (s : Bool) (x y : Nat) : Bool := if x = 0 ∨ y = 0 then false else s
def ldN (x y : Nat) : Nat := if x = 0 ∨ y = 0 then 0 else x
def ldD (x y : Nat) : Nat := if x = 0 ∨ y = 0 then 1 else y
theorem ln_one : ln 1 = 1 := by rw [ln, digs_small (by omega) (by omega)]; rfl
theorem ldD_ne {x y : Nat} : ldD x y ≠ 0 := by
  unfold ldD
  split
  · omega
  · rename_i h; omega
theorem ldN_le (x y : Nat) : ldN x y ≤ x := by
  unfold ldN
  split <;> omega
theorem ln_ldD {x y k : Nat} (h : ln y ≤ k) (hk : 1 ≤ k) : ln (ldD x y) ≤ k := by
  unfold ldD
  split
  · rw [ln_one]; exact hk
  · exact h

set_option maxHeartbeats 3200000 in
theorem load_any (s : Bool) (A : Option Addr) (ca : Nat) (B : Option Addr) (cb : Nat) (xs ys : List Nat) (w : World) (h1 : SI w w.heap.size .u32 A (zs xs)) (h2 : SI w w.heap.size .u32 B (zs ys))
    (h3 : ∀ a ∈ xs, a < 4294967296) (h4 : ∀ a ∈ ys, a < 4294967296) (h5 : xs.length ≤ 17179869184) (h6 : ys.length ≤ 17179869184) :
    Calls Tryd.prog 19 #[.agg #[.bool s, .slice A xs.length ca, .slice B ys.length cb]] w
      (RetF w (ldS s (nv xs) (nv ys)) (ldN (nv xs) (nv ys)) (ldD (nv xs) (nv ys))) := by
  have HN1 : ∀ wx, Up w wx → Calls Tryd.prog 37 #[.slice A xs.length ca] wx (RetN wx (nv xs)) := fun wx hu => normal_any A ca xs wx.heap.size wx (SI.up h1 hu) (Nat.le_refl _) h3 h5
  have HN2 : ∀ wx, Up w wx → Calls Tryd.prog 37 #[.slice B ys.length cb] wx (RetN wx (nv ys)) := fun wx hu => normal_any B cb ys wx.heap.size wx (SI.up h2 hu) (Nat.le_refl _) h4 h6
  have H1 := Lib.hid HN1
  have H2 := Lib.hid HN2
  have l1 : ln (nv xs) = 0 ↔ nv xs = 0 := ln_eq_zero
  have l2 : ln (nv ys) = 0 ↔ nv ys = 0 := ln_eq_zero
  obtain ⟨x, hx⟩ : ∃ x, x = nv xs := ⟨_, rfl⟩
  obtain ⟨y, hy⟩ : ∃ y, y = nv ys := ⟨_, rfl⟩
  rw [← hx] at H1 l1 ⊢
  rw [← hy] at H2 l2 ⊢
  have L1 := Lib.hid l1
  have L2 := Lib.hid l2
  clear HN1 HN2 h1 h2 h3 h4 hx hy l1 l2
  go_enter Tryd.func19, Tryd.ntmps19
  go_wp2_with fail
  obtain ⟨w1, hw1⟩ : ∃ w1, w1 = (w.alloc (Obj.cells #[.bool s, .slice A xs.length ca, .slice B ys.length cb] 24)).alloc (Obj.cells #[.bool false, .slice none 0 0, .slice none 0 0] 40) := ⟨_, rfl⟩
  have U1 : Up w w1 := by rw [hw1]; exact ((Below.refl _ _).alloc (Nat.le_refl _) _).alloc (by simp) _
  have b1 : Blk w1 w.heap.size 24 #[.bool s, .slice A xs.length ca, .slice B ys.length cb] := by rw [hw1]; exact (Blk.new w _ _).alloc _
  have r1 : Blk w1 (w.heap.size + 1) 40 #[.bool false, .slice none 0 0, .slice none 0 0] := by rw [hw1]; exact Blk.new' _ _ _ (by simp)
  rw [← hw1]
  clear hw1
  have s0 := tri b1
  go_region_held3 (fun wx => wx.cell? ⟨w.heap.size, 0, none⟩ = some (.bool s) ∧ wx.cell? ⟨w.heap.size, 1, none⟩ = some (.slice A xs.length ca) ∧ wx.cell? ⟨w.heap.size, 2, none⟩ = some (.slice B ys.length cb))
    (first | exact s0 | exact s2 | exact s3)
    (first
      | (go_at_call_of 37 (Value.slice A xs.length ca); refine (H1.out _ (by exact U1.drew)).mono ?_; rintro e w2 ⟨A2, c2, rfl, h21, h22, h23, hb2⟩; have U2 := Up.trans U1.drew hb2; have b2 := Blk.up (w := w1.drew) b1 hb2; have r2 := Blk.up (w := w1.drew) r1 hb2; have s2 := tri b2)
      | (go_at_call_of 37 (Value.slice B ys.length cb); refine (H2.out _ (by exact U2)).mono ?_; rintro e w3 ⟨A3, c3, rfl, h31, h32, h33, hb3⟩; have U3 := Up.trans U2 hb3; have b3 := Blk.up b2 hb3; have r3 := Blk.up r2 hb3; have s3 := tri b3))
  obtain ⟨d0, d1, d2⟩ := tri r3
  have f0 := r3.frozen 0
  have f1 := r3.frozen 1
  have f2 := r3.frozen 2
  have hz3 := r3.lt
  have hws := U3.size
  by_cases hx0 : x = 0 ∨ y = 0
  · have HX := Lib.hid hx0
    have ht : (((ln x : Nat) : Int) == 0) = true ∨ ((((ln x : Nat) : Int) == 0) = false ∧ (((ln y : Nat) : Int) == 0) = true) := by
      by_cases h : x = 0
      · left; rw [h, ln_zero]; rfl
      · right; refine ⟨by simp; exact fun h' => h (L1.out.1 h'), ?_⟩; rw [hx0.resolve_left h, ln_zero]; rfl
    clear hx0
    rcases ht with ht | ⟨ht, ht'⟩
    all_goals
      go_wp2_with fail
      obtain ⟨c0, c1, c2⟩ := tri ((tri_set r3 (.bool false) (.slice none 0 0) (.slice (some ⟨w3.heap.size, 0, none⟩) 1 1)).alloc (Obj.cells #[Value.int IntKind.u32 1] 25))
      refine bodyPost_ret (v := .agg #[.bool false, .slice none 0 0, .slice (some ⟨w3.heap.size, 0, none⟩) 1 1]) ?_ rfl ?_
      · simp [results, Tryd.results19, go_sem, c0, c1, c2]
      · rw [ldS, ldN, ldD, if_pos HX.out, if_pos HX.out, if_pos HX.out]
        refine ⟨_, rfl, ⟨none, 0, some ⟨w3.heap.size, 0, none⟩, 1, by rw [ln_zero, ln_one], NS.zero, ?_, by rw [ln_zero]; omega, by omega, by rw [ln_one]; omega, by omega⟩, ?_⟩
        · have hd : zs (digs 1) = [1] := by rw [digs_small (by omega) (by omega)]; rfl
          unfold NS
          rw [hd]
          refine SI.blk _ (t := 25) ?_ ?_
          · exact Blk.new' _ _ _ (by simp [World.setCell])
          · simp [World.setCell]
        · exact (up_tri U3 (by omega) _ _ _).alloc (by simp [World.setCell]; omega) _
  · have HX := Lib.hid hx0
    have ht : (((ln x : Nat) : Int) == 0) = false := by simp; exact fun h' => hx0 (Or.inl (L1.out.1 h'))
    have ht' : (((ln y : Nat) : Int) == 0) = false := by simp; exact fun h' => hx0 (Or.inr (L2.out.1 h'))
    clear hx0
    go_wp2_with fail
    obtain ⟨c0, c1, c2'⟩ := tri (tri_set r3 (.bool s) (.slice A2 (ln x) c2) (.slice A3 (ln y) c3))
    refine bodyPost_ret (v := .agg #[.bool s, .slice A2 (ln x) c2, .slice A3 (ln y) c3]) ?_ rfl ?_
    · simp [results, Tryd.results19, go_sem, c0, c1, c2']
    · rw [ldS, ldN, ldD, if_neg HX.out, if_neg HX.out, if_neg HX.out]
      exact ⟨_, rfl, ⟨A2, c2, A3, c3, rfl, (h23.up hb3).far r3 noint3 (only_tri _ _ _), h33.far r3 noint3 (only_tri _ _ _), h21, h22, h31, h32⟩, up_tri U3 (by omega) _ _ _⟩
end Go.Proofs.YtefiapjfiojaoaaDoor

/-
  Rational numbers as values: lowest, store.
-/
namespace Go.Proofs.YtefiapjfiojaoaaDoor
open Go.RowKit

def lwS (s : Bool) (n : Nat) : Bool := if n = 0 then false else s

set_option maxHeartbeats 3200000 in
theorem lowest_any (s : Bool) (A : Option Addr) (ca : Nat) (B : Option Addr) (cb : Nat) (n d : Nat) (w : World) (h1 : NS w A n) (h2 : NS w B d) (h3 : ln n ≤ ca) (h4 : ca ≤ 9223372036854775807) (h5 : ln d ≤ cb) (h6 : cb ≤ 9223372036854775807)
    (h7 : ln n ≤ 17179869183) (h8 : ln d ≤ 17179869183) (hd : d ≠ 0) :
    Calls Tryd.prog 27 #[.agg #[.bool s, .slice A (ln n) ca, .slice B (ln d) cb]] w (RetF w (lwS s n) (n / Nat.gcd n d) (d / Nat.gcd n d)) := by
  have H := Lib.hid (And.intro h1 h2)
  have HC := Lib.hid (And.intro h3 (And.intro h4 (And.intro h5 h6)))
  have HD := Lib.hid hd
  clear h1 h2 h3 h4 h5 h6 hd
  go_enter Tryd.func27, Tryd.ntmps27
  by_cases hn : n = 0
  · have HN := Lib.hid hn
    have ht : (((ln n : Nat) : Int) == 0) = true := by rw [hn, ln_zero]; rfl
    clear hn
    go_wp2_with fail
    refine bodyPost_ret (v := .agg #[.bool false, .slice none 0 0, .slice (some ⟨w.heap.size + 2, 0, none⟩) 1 1]) ?_ rfl ?_
    · simp [results, Tryd.results27, go_sem]
    · rw [HN.out, lwS, if_pos rfl, Nat.zero_div, Nat.gcd_zero_left, Nat.div_self (Nat.pos_of_ne_zero HD.out)]
      refine ⟨_, rfl, ⟨none, 0, some ⟨w.heap.size + 2, 0, none⟩, 1, by rw [ln_zero, ln_one], NS.zero, ?_, by rw [ln_zero]; omega, by omega, by rw [ln_one]; omega, by omega⟩, ?_⟩
      · have hd : zs (digs 1) = [1] := by rw [digs_small (by omega) (by omega)]; rfl
        unfold NS
        rw [hd]
        refine SI.blk _ (t := 25) ?_ ?_
        · exact Blk.new' _ _ _ (by simp)
        · simp
      · exact (((Below.refl _ _).alloc (Nat.le_refl _) _).alloc (by simp) _).alloc (by simp; omega) _
  · have ht : (((ln n : Nat) : Int) == 0) = false := by simp; exact fun h => hn (ln_eq_zero.1 h)
    have hs : lwS s n = s := by rw [lwS, if_neg hn]
    have HS := Lib.hid hs
    have HN := Lib.hid hn
    have l1 : ln n ≤ 17592186044416 := by omega
    have l2 : ln d ≤ 17592186044416 := by omega
    clear hn hs
    go_wp2_with fail
    obtain ⟨w1, hw1⟩ : ∃ w1, w1 = (w.alloc (Obj.cells #[.bool s, .slice A (ln n) ca, .slice B (ln d) cb] 40)).alloc (Obj.cells #[.bool false, .slice none 0 0, .slice none 0 0] 40) := ⟨_, rfl⟩
    have U1 : Up w w1 := by rw [hw1]; exact ((Below.refl _ _).alloc (Nat.le_refl _) _).alloc (by simp) _
    have b1 : Blk w1 w.heap.size 40 #[.bool s, .slice A (ln n) ca, .slice B (ln d) cb] := by rw [hw1]; exact (Blk.new w _ _).alloc _
    have r1 : Blk w1 (w.heap.size + 1) 40 #[.bool false, .slice none 0 0, .slice none 0 0] := by rw [hw1]; exact Blk.new' _ _ _ (by simp)
    rw [← hw1]
    clear hw1
    obtain ⟨b0, bb1, bb2⟩ := tri b1
    obtain ⟨d0, d1, d2⟩ := tri r1
    have f0 := r1.frozen 0
    have f1 := r1.frozen 1
    have f2 := r1.frozen 2
    refine (isOne_any B cb d w1 (H.out.2.up U1) l2).mono ?_
    rintro e w2 ⟨rfl, rfl⟩
    by_cases hd1 : d = 1
    · have HD1 := Lib.hid hd1
      have ht1 : (d == 1) = true := by simp [hd1]
      rw [ht1]
      clear hd1 ht1
      go_wp2_with fail
      obtain ⟨c0, c1, c2⟩ := tri (tri_set r1 (.bool s) (.slice A (ln n) ca) (.slice B (ln d) cb))
      refine bodyPost_ret (v := .agg #[.bool s, .slice A (ln n) ca, .slice B (ln d) cb]) ?_ rfl ?_
      · simp [results, Tryd.results27, go_sem, c0, c1, c2]
      · rw [HS.out, HD1.out, Nat.gcd_one_right, Nat.div_one, Nat.div_one]
        refine ⟨_, rfl, ⟨A, ca, B, cb, rfl, (H.out.1.up U1).far r1 noint3 (only_tri _ _ _), ?_, HC.out.1, HC.out.2.1, ?_, HC.out.2.2.2⟩, up_tri U1 (by omega) _ _ _⟩
        · have := (H.out.2.up U1).far r1 noint3 (only_tri (.bool s) (.slice A (ln n) ca) (.slice B (ln d) cb))
          rwa [HD1.out] at this
        · have := HC.out.2.2.1
          rwa [HD1.out] at this
    · have HD1 := Lib.hid hd1
      have ht1 : (d == 1) = false := by simp [hd1]
      rw [ht1]
      clear hd1 ht1
      go_wp2_with fail
      refine (gcd_any A ca n B cb d w1 (H.out.1.up U1) (H.out.2.up U1) HC.out.1 HC.out.2.2.1 HC.out.2.1 HC.out.2.2.2 h7 h8).mono ?_
      rintro e w3 ⟨G, cg, rfl, hg1, hg2, hg3, hU3⟩
      have U3 := U1.trans hU3
      have b3 := b1.up hU3
      have r3 := r1.up hU3
      obtain ⟨x0, x1, x2⟩ := tri b3
      obtain ⟨y0, y1, y2⟩ := tri r3
      have e0 := r3.frozen 0
      have e1 := r3.frozen 1
      have e2 := r3.frozen 2
      have HG0 := Lib.hid (Nat.gcd_pos_of_pos_right n (Nat.pos_of_ne_zero HD.out))
      have hgl : ln (Nat.gcd n d) ≤ 17179869183 := Nat.le_trans (ln_mono (Nat.gcd_le_right n (Nat.pos_of_ne_zero HD.out))) h8
      obtain ⟨g, hg⟩ : ∃ g, g = Nat.gcd n d := ⟨_, rfl⟩
      have HG := Lib.hid hg
      rw [← hg] at hg1 hg3 HG0 hgl ⊢
      clear hg b0 bb1 bb2 d0 d1 d2 f0 f1 f2
      go_wp2_with fail
      refine (isOne_any G cg g w3 hg3 (by omega)).mono ?_
      rintro e w4 ⟨rfl, rfl⟩
      by_cases hg1' : g = 1
      · have HG1 := Lib.hid hg1'
        have ht1 : (g == 1) = true := by simp [hg1']
        rw [ht1]
        clear hg1' ht1
        go_wp2_with fail
        obtain ⟨c0, c1, c2⟩ := tri (tri_set r3 (.bool s) (.slice A (ln n) ca) (.slice B (ln d) cb))
        refine bodyPost_ret (v := .agg #[.bool s, .slice A (ln n) ca, .slice B (ln d) cb]) ?_ rfl ?_
        · simp [results, Tryd.results27, go_sem, c0, c1, c2]
        · rw [HS.out, ← HG.out, HG1.out, Nat.div_one, Nat.div_one]
          exact ⟨_, rfl, ⟨A, ca, B, cb, rfl, (H.out.1.up U3).far r3 noint3 (only_tri _ _ _), (H.out.2.up U3).far r3 noint3 (only_tri _ _ _), HC.out.1, HC.out.2.1, HC.out.2.2.1, HC.out.2.2.2⟩, up_tri U3 (by omega) _ _ _⟩
      · have ht1 : (g == 1) = false := by simp [hg1']
        rw [ht1]
        clear hg1' ht1
        go_wp2_with fail
        refine (divide_any A ca n G cg g w3 (H.out.1.up U3) hg3 h7 (by omega) (by have := HG0.out; omega)).mono ?_
        rintro e w5 ⟨A5, c5, B5, d5, rfl, h51, h52, h53, h54, h55, h56, hU5⟩
        have U5 := U3.trans hU5
        have b5 := b3.up hU5
        obtain ⟨z0, z1, z2⟩ := tri b5
        have r5 := r3.up hU5
        go_wp2_with fail
        refine (divide_any B cb d G cg g w5 (H.out.2.up U5) (hg3.up hU5) h8 (by omega) (by have := HG0.out; omega)).mono ?_
        rintro e w6 ⟨A6, c6, B6, d6, rfl, h61, h62, h63, h64, h65, h66, hU6⟩
        have U6 := U5.trans hU6
        have b6 := b5.up hU6
        obtain ⟨t0, t1, t2⟩ := tri b6
        have r6 := r5.up hU6
        obtain ⟨k0, k1, k2⟩ := tri r6
        have m0 := r6.frozen 0
        have m1 := r6.frozen 1
        have m2 := r6.frozen 2
        go_wp2_with fail
        obtain ⟨c0, c1, c2⟩ := tri (tri_set r6 (.bool s) (.slice A5 (ln (n / g)) c5) (.slice A6 (ln (d / g)) c6))
        refine bodyPost_ret (v := .agg #[.bool s, .slice A5 (ln (n / g)) c5, .slice A6 (ln (d / g)) c6]) ?_ rfl ?_
        · simp [results, Tryd.results27, go_sem, c0, c1, c2]
        · rw [HS.out, ← HG.out]
          exact ⟨_, rfl, ⟨A5, c5, A6, c6, rfl, (h55.up hU6).far r6 noint3 (only_tri _ _ _), h65.far r6 noint3 (only_tri _ _ _), h51, h52, h61, h62⟩, up_tri U6 (by omega) _ _ _⟩
set_option maxHeartbeats 3200000 in
theorem store_any (s : Bool) (A : Option Addr) (ca : Nat) (B : Option Addr) (cb : Nat) (n d : Nat) (w : World) (h1 : NS w A n) (h2 : NS w B d) (h3 : ln n ≤ ca) (h4 : ca ≤ 9223372036854775807) (h5 : ln d ≤ cb) (h6 : cb ≤ 9223372036854775807)
    (h7 : ln n ≤ 17179869183) (h8 : ln d ≤ 17179869183) (hd : d ≠ 0) :
    Calls Tryd.prog 20 #[.agg #[.bool s, .slice A (ln n) ca, .slice B (ln d) cb]] w (RetF w (lwS s n) (n / Nat.gcd n d) (d / Nat.gcd n d)) := by
  have HL : ∀ wx, Up w wx → Calls Tryd.prog 27 #[.agg #[.bool s, .slice A (ln n) ca, .slice B (ln d) cb]] wx (RetF wx (lwS s n) (n / Nat.gcd n d) (d / Nat.gcd n d)) :=
    fun wx hu => lowest_any s A ca B cb n d wx (h1.up hu) (h2.up hu) h3 h4 h5 h6 h7 h8 hd
  have H := Lib.hid HL
  obtain ⟨N, hN⟩ : ∃ N, N = n / Nat.gcd n d := ⟨_, rfl⟩
  obtain ⟨D, hD⟩ : ∃ D, D = d / Nat.gcd n d := ⟨_, rfl⟩
  obtain ⟨S, hS⟩ : ∃ S, S = lwS s n := ⟨_, rfl⟩
  rw [← hN, ← hD, ← hS] at H ⊢
  clear HL h1 h2 h3 h4 h5 h6 hd hN hD hS
  go_enter Tryd.func20, Tryd.ntmps20
  go_wp2_with fail
  obtain ⟨w1, hw1⟩ : ∃ w1, w1 = (w.alloc (Obj.cells #[.bool s, .slice A (ln n) ca, .slice B (ln d) cb] 40)).alloc (Obj.cells #[.bool false, .slice none 0 0, .slice none 0 0] 24) := ⟨_, rfl⟩
  have U1 : Up w w1 := by rw [hw1]; exact ((Below.refl _ _).alloc (Nat.le_refl _) _).alloc (by simp) _
  have r1 : Blk w1 (w.heap.size + 1) 24 #[.bool false, .slice none 0 0, .slice none 0 0] := by rw [hw1]; exact Blk.new' _ _ _ (by simp)
  rw [← hw1]
  clear hw1
  refine (H.out w1 U1).mono ?_
  rintro e w2 ⟨v, rfl, ⟨A2, c2, B2, d2, rfl, k1, k2, k3, k4, k5, k6⟩, hU2⟩
  have U2 := U1.trans hU2
  have r2 := r1.up hU2
  obtain ⟨y0, y1, y2⟩ := tri r2
  have e0 := r2.frozen 0
  have e1 := r2.frozen 1
  have e2 := r2.frozen 2
  have z1 := r2.lt
  go_wp2_with fail
  obtain ⟨c0, c1, c2'⟩ := tri ((tri_set r2 (.bool S) (.slice A2 (ln N) c2) (.slice B2 (ln D) d2)).alloc (Obj.cells #[Value.bool S, Value.slice A2 (ln N) c2, Value.slice B2 (ln D) d2] 40))
  refine bodyPost_ret (v := .agg #[.bool S, .slice A2 (ln N) c2, .slice B2 (ln D) d2]) ?_ rfl ?_
  · simp [results, Tryd.results20, go_sem, c0, c1, c2']
  · exact ⟨_, rfl, ⟨A2, c2, B2, d2, rfl, k1.far r2 noint3 (only_alloc (only_tri _ _ _) _), k2.far r2 noint3 (only_alloc (only_tri _ _ _) _), k3, k4, k5, k6⟩, (up_tri U2 (by omega) _ _ _).alloc (by have := U2.size; simp [World.setCell]; omega) _⟩
end Go.Proofs.YtefiapjfiojaoaaDoor

/-
  Rational numbers as values: magnitude, sign.
-/
namespace Go.Proofs.YtefiapjfiojaoaaDoor
open Go.RowKit

set_option maxHeartbeats 1600000 in
theorem magnitude_any (z : Int) (w : World) (h1 : -9223372036854775808 ≤ z) (h2 : z ≤ 9223372036854775807) :
    Calls Tryd.prog 22 #[.int .i64 z] w (RetN w z.natAbs) := by
  obtain ⟨m, hm⟩ : ∃ m, m = z.natAbs := ⟨_, rfl⟩
  have hm2 : m < 18446744073709551616 := by omega
  have H := Lib.hid (fun wx => fromWord_any m wx hm2)
  rw [← hm]
  by_cases hz : z < 0
  · have hb : decide (z < 0) = true := by simp [hz]
    have e1 : IntKind.u64.wrap z = z + 18446744073709551616 := by unfold IntKind.wrap; simp [IntKind.bits, IntKind.signed]; omega
    have e2 : IntKind.u64.wrap (-(z + 18446744073709551616)) = (m : Int) := by clear e1; unfold IntKind.wrap; simp [IntKind.bits, IntKind.signed]; omega
    clear hm
    go_enter Tryd.func22, Tryd.ntmps22
    go_wp2_with fail
    refine (H.out _).mono ?_
    rintro e w2 ⟨A, c, rfl, k1, k2, k3, k4⟩
    go_wp2_with fail
    go_ret
    exact ⟨A, c, rfl, k1, k2, k3, k4⟩
  · have hb : decide (z < 0) = false := by simp; omega
    obtain rfl : z = (m : Int) := by omega
    clear hm
    go_enter Tryd.func22, Tryd.ntmps22
    go_wp2_with fail
    refine (H.out _).mono ?_
    rintro e w2 ⟨A, c, rfl, k1, k2, k3, k4⟩
    go_wp2_with fail
    go_ret
    exact ⟨A, c, rfl, k1, k2, k3, k4⟩
def FromIntRet (w0 : World) (z : Int) (e : Ending) (w' : World) : Prop := RetF w0 (decide (z < 0)) z.natAbs 1 e w'
set_option maxHeartbeats 3200000 in
theorem fromInt_any (z : Int) (w : World) (h1 : -9223372036854775808 ≤ z) (h2 : z ≤ 9223372036854775807) :
    Calls Tryd.prog 10 #[.int .i64 z] w (FromIntRet w z) := by
  have H := Lib.hid (fun wx => magnitude_any z wx h1 h2)
  obtain ⟨b, hb⟩ : ∃ b, b = decide (z < 0) := ⟨_, rfl⟩
  obtain ⟨m, hm⟩ : ∃ m, m = z.natAbs := ⟨_, rfl⟩
  have hlm : ln m ≤ 17179869183 := by
    have : ln m ≤ 3 := ln_le.2 (by rw [hm]; have : z.natAbs ≤ 9223372036854775808 := by omega
                                   exact Nat.lt_of_le_of_lt this (by decide))
    omega
  have hsg : lwS b m = b := by
    rw [lwS]
    split
    · rename_i h
      rw [hb]; symm; simp; omega
    · rfl
  have HS := Lib.hid hsg
  unfold FromIntRet
  rw [← hb, ← hm]
  rw [← hm] at H
  have HB := hb.symm
  clear hm hb hsg
  go_enter Tryd.func10, Tryd.ntmps10
  go_wp2_with fail
  obtain ⟨w1, hw1⟩ : ∃ w1, w1 = w.alloc (Obj.cells #[.bool false, .slice none 0 0, .slice none 0 0] 24) := ⟨_, rfl⟩
  have U1 : Up w w1 := by rw [hw1]; exact (Below.refl _ _).alloc (Nat.le_refl _) _
  have r1 : Blk w1 w.heap.size 24 #[.bool false, .slice none 0 0, .slice none 0 0] := by rw [hw1]; exact Blk.new _ _ _
  rw [← hw1]
  clear hw1
  refine (H.out w1).mono ?_
  rintro e w2 ⟨A, c, rfl, k1, k2, k3, k4⟩
  have U2 := U1.trans k4
  have r2 := r1.up k4
  have z2 := r2.lt
  go_wp2_with fail
  have s1 : NS (w2.alloc (Obj.cells #[Value.int IntKind.u32 1] 25)) (some ⟨w2.heap.size, 0, none⟩) 1 := by
    have hd : zs (digs 1) = [1] := by rw [digs_small (by omega) (by omega)]; rfl
    unfold NS
    rw [hd]
    exact SI.blk _ (Blk.new w2 25 _) (by simp)
  have U3 : Up w2 (w2.alloc (Obj.cells #[Value.int IntKind.u32 1] 25)) := (Below.refl _ _).alloc (Nat.le_refl _) _
  have HT := store_any b A c (some ⟨w2.heap.size, 0, none⟩) 1 m 1 (w2.alloc (Obj.cells #[Value.int IntKind.u32 1] 25)) (k3.up U3) s1 k1 k2 (by rw [ln_one]; omega) (by omega) hlm (by rw [ln_one]; omega) (by omega)
  rw [ln_one, HS.out, Nat.gcd_one_right, Nat.div_one, Nat.div_one] at HT
  try rw [HB]
  refine HT.mono ?_
  rintro e w3 ⟨v, rfl, ⟨A2, c2, B2, d2, rfl, q1, q2, q3, q4, q5, q6⟩, hU3⟩
  have U4 := U2.trans (U3.trans hU3)
  have r3 := (r2.up U3).up hU3
  obtain ⟨y0, y1, y2⟩ := tri r3
  have e0 := r3.frozen 0
  have e1 := r3.frozen 1
  have e2 := r3.frozen 2
  have z1 := r3.lt
  go_wp2_with fail
  obtain ⟨c0, c1, c2'⟩ := tri (tri_set r3 (.bool b) (.slice A2 (ln m) c2) (.slice B2 (ln 1) d2))
  refine bodyPost_ret (v := .agg #[.bool b, .slice A2 (ln m) c2, .slice B2 (ln 1) d2]) ?_ rfl ?_
  · simp [results, Tryd.results10, go_sem, c0, c1, c2']
  · exact ⟨_, rfl, ⟨A2, c2, B2, d2, rfl, q1.far r3 noint3 (only_tri _ _ _), q2.far r3 noint3 (only_tri _ _ _), q3, q4, q5, q6⟩, up_tri U4 (by omega) _ _ _⟩
end Go.Proofs.YtefiapjfiojaoaaDoor

/-
  Rational numbers as values: sign, Sign.
-/
namespace Go.Proofs.YtefiapjfiojaoaaDoor
open Go.RowKit

def sgnF (s : Bool) (n : Nat) : Int := if n = 0 then 0 else if s = true then -1 else 1
set_option maxHeartbeats 1600000 in
theorem fsign_any (s : Bool) (A : Option Addr) (ca : Nat) (B : Option Addr) (cb : Nat) (n d : Nat) (w : World) (_ : ln n ≤ 17592186044416) :
    Calls Tryd.prog 25 #[.agg #[.bool s, .slice A (ln n) ca, .slice B (ln d) cb]] w fun e w' => e = .returned (.int .i64 (sgnF s n)) ∧ Up w w' := by
  by_cases hn : n = 0
  · have ht : (((ln n : Nat) : Int) == 0) = true := by rw [hn, ln_zero]; rfl
    have hs : sgnF s n = 0 := by rw [sgnF, if_pos hn]
    rw [hs]
    clear hn hs
    go_enter Tryd.func25, Tryd.ntmps25
    go_wp2_with fail
    go_ret
    exact ⟨rfl, (Below.refl _ _).alloc (Nat.le_refl _) _⟩
  · have ht : (((ln n : Nat) : Int) == 0) = false := by simp; exact fun h => hn (ln_eq_zero.1 h)
    cases s with
    | true =>
      have hs : sgnF true n = -1 := by rw [sgnF, if_neg hn]; rfl
      rw [hs]
      clear hn hs
      go_enter Tryd.func25, Tryd.ntmps25
      go_wp2_with fail
      go_ret
      exact ⟨rfl, (Below.refl _ _).alloc (Nat.le_refl _) _⟩
    | false =>
      have hs : sgnF false n = 1 := by rw [sgnF, if_neg hn]; rfl
      rw [hs]
      clear hn hs
      go_enter Tryd.func25, Tryd.ntmps25
      go_wp2_with fail
      go_ret
      exact ⟨rfl, (Below.refl _ _).alloc (Nat.le_refl _) _⟩

end Go.Proofs.YtefiapjfiojaoaaDoor

/-
  Rational numbers as values: Small.
-/
namespace Go.Proofs.YtefiapjfiojaoaaDoor
open Go.RowKit

theorem ln_word {m : Nat} (h : m ≤ 9223372036854775808) : ln m ≤ 3 := ln_le.2 (Nat.lt_of_le_of_lt h (by decide))
set_option maxHeartbeats 3200000 in
theorem small_yes (x y : Int) (w : World) (h1 : -9223372036854775808 ≤ x) (h2 : x ≤ 9223372036854775807) (h3 : -9223372036854775808 ≤ y) (h4 : y ≤ 9223372036854775807) (hy : y ≠ 0) :
    Calls Tryd.prog 30 #[.int .i64 x, .int .i64 y] w
      (RetF w (lwS (decide (x < 0) != decide (y < 0)) x.natAbs) (x.natAbs / Nat.gcd x.natAbs y.natAbs) (y.natAbs / Nat.gcd x.natAbs y.natAbs)) := by
  have H1 := Lib.hid (fun wx => magnitude_any x wx h1 h2)
  have H2 := Lib.hid (fun wx => magnitude_any y wx h3 h4)
  have hy0 : (y == 0) = false := by simp [hy]
  have hb0 : y.natAbs ≠ 0 := by omega
  have hl1 : x.natAbs ≤ 9223372036854775808 := by omega
  have hl2 : y.natAbs ≤ 9223372036854775808 := by omega
  obtain ⟨p, hp⟩ : ∃ p, decide (x < 0) = p := ⟨_, rfl⟩
  obtain ⟨q, hq⟩ : ∃ q, decide (y < 0) = q := ⟨_, rfl⟩
  rw [hp, hq]
  obtain ⟨s, hs⟩ : ∃ s, s = (p != q) := ⟨_, rfl⟩
  rw [← hs]
  cases p <;> cases q <;> (simp at hs; subst hs)
  all_goals
    obtain ⟨m, hm⟩ : ∃ m, m = x.natAbs := ⟨_, rfl⟩
    obtain ⟨k, hk⟩ : ∃ k, k = y.natAbs := ⟨_, rfl⟩
    rw [← hm] at H1 hl1
    rw [← hk] at H2 hl2 hb0
    rw [← hm, ← hk]
    clear hm hk hy
    go_enter Tryd.func30, Tryd.ntmps30
    go_wp2_with fail
    obtain ⟨w1, hw1⟩ : ∃ w1, w1 = w.alloc (Obj.cells #[.bool false, .slice none 0 0, .slice none 0 0] 24) := ⟨_, rfl⟩
    have U1 : Up w w1 := by rw [hw1]; exact (Below.refl _ _).alloc (Nat.le_refl _) _
    have r1 : Blk w1 w.heap.size 24 #[.bool false, .slice none 0 0, .slice none 0 0] := by rw [hw1]; exact Blk.new _ _ _
    rw [← hw1]
    clear hw1
    refine (H1.out w1).mono ?_
    rintro e w2 ⟨A, c, rfl, k1, k2, k3, k4⟩
    have U2 := U1.trans k4
    have r2 := r1.up k4
    go_wp2_with fail
    refine (H2.out w2).mono ?_
    rintro e w3 ⟨B, d, rfl, j1, j2, j3, j4⟩
    have U3 := U2.trans j4
    have r3 := r2.up j4
    have z3 := r3.lt
    go_wp2_with fail
    refine (store_any _ A c B d m k w3 (k3.up j4) j3 k1 k2 j1 j2 (Nat.le_trans (ln_word hl1) (by omega)) (Nat.le_trans (ln_word hl2) (by omega)) hb0).mono ?_
    rintro e w4 ⟨v, rfl, ⟨A2, c2, B2, d2, rfl, q1, q2, q3, q4, q5, q6⟩, hU4⟩
    have U4 := U3.trans hU4
    have r4 := r3.up hU4
    obtain ⟨y0, y1, y2⟩ := tri r4
    have e0 := r4.frozen 0
    have e1 := r4.frozen 1
    have e2 := r4.frozen 2
    have z1 := r4.lt
    go_wp2_with fail
    first
      | (obtain ⟨c0, c1, c2'⟩ := tri (tri_set r4 (.bool (lwS true m)) (.slice A2 (ln (m / Nat.gcd m k)) c2) (.slice B2 (ln (k / Nat.gcd m k)) d2))
         refine bodyPost_ret (v := .agg #[.bool (lwS true m), .slice A2 (ln (m / Nat.gcd m k)) c2, .slice B2 (ln (k / Nat.gcd m k)) d2]) ?_ rfl ?_
         · simp [results, Tryd.results30, go_sem, c0, c1, c2']
         · exact ⟨_, rfl, ⟨A2, c2, B2, d2, rfl, q1.far r4 noint3 (only_tri _ _ _), q2.far r4 noint3 (only_tri _ _ _), q3, q4, q5, q6⟩, up_tri U4 (by omega) _ _ _⟩)
      | (obtain ⟨c0, c1, c2'⟩ := tri (tri_set r4 (.bool (lwS false m)) (.slice A2 (ln (m / Nat.gcd m k)) c2) (.slice B2 (ln (k / Nat.gcd m k)) d2))
         refine bodyPost_ret (v := .agg #[.bool (lwS false m), .slice A2 (ln (m / Nat.gcd m k)) c2, .slice B2 (ln (k / Nat.gcd m k)) d2]) ?_ rfl ?_
         · simp [results, Tryd.results30, go_sem, c0, c1, c2']
         · exact ⟨_, rfl, ⟨A2, c2, B2, d2, rfl, q1.far r4 noint3 (only_tri _ _ _), q2.far r4 noint3 (only_tri _ _ _), q3, q4, q5, q6⟩, up_tri U4 (by omega) _ _ _⟩)
set_option maxHeartbeats 3200000 in
theorem small_zero (x : Int) (w : World) :
    Calls Tryd.prog 30 #[.int .i64 x, .int .i64 0] w (RetF w false 0 1) := by
  have HF : ∀ wx, Calls Tryd.prog 10 #[.int .i64 0] wx (RetF wx false 0 1) := fun wx => fromInt_any 0 wx (by omega) (by omega)
  have H := Lib.hid HF
  clear HF
  go_enter Tryd.func30, Tryd.ntmps30
  go_wp2_with fail
  obtain ⟨w1, hw1⟩ : ∃ w1, w1 = w.alloc (Obj.cells #[.bool false, .slice none 0 0, .slice none 0 0] 24) := ⟨_, rfl⟩
  have U1 : Up w w1 := by rw [hw1]; exact (Below.refl _ _).alloc (Nat.le_refl _) _
  have r1 : Blk w1 w.heap.size 24 #[.bool false, .slice none 0 0, .slice none 0 0] := by rw [hw1]; exact Blk.new _ _ _
  rw [← hw1]
  clear hw1
  refine (H.out w1).mono ?_
  rintro e w4 ⟨v, rfl, ⟨A2, c2, B2, d2, rfl, q1, q2, q3, q4, q5, q6⟩, hU4⟩
  have U4 := U1.trans hU4
  have r4 := r1.up hU4
  obtain ⟨y0, y1, y2⟩ := tri r4
  have e0 := r4.frozen 0
  have e1 := r4.frozen 1
  have e2 := r4.frozen 2
  have z1 := r4.lt
  go_wp2_with fail
  obtain ⟨c0, c1, c2'⟩ := tri (tri_set r4 (.bool false) (.slice A2 (ln 0) c2) (.slice B2 (ln 1) d2))
  refine bodyPost_ret (v := .agg #[.bool false, .slice A2 (ln 0) c2, .slice B2 (ln 1) d2]) ?_ rfl ?_
  · simp [results, Tryd.results30, go_sem, c0, c1, c2']
  · exact ⟨_, rfl, ⟨A2, c2, B2, d2, rfl, q1.far r4 noint3 (only_tri _ _ _), q2.far r4 noint3 (only_tri _ _ _), q3, q4, q5, q6⟩, up_tri U4 (by omega) _ _ _⟩
end Go.Proofs.YtefiapjfiojaoaaDoor

/-
  Fractions as rational numbers: plain laws, no program in sight.
-/
namespace Go.Proofs.YtefiapjfiojaoaaDoor

/-- The rational number with the sign s, the numerator n and the denominator d. -/
def fq (s : Bool) (n d : Nat) : Rat := mkRat (if s then -(n : Int) else n) d

theorem fq_zero (s : Bool) (d : Nat) : fq s 0 d = 0 := by cases s <;> simp [fq]
theorem fq_none (s : Bool) (n : Nat) : fq s n 0 = 0 := by simp [fq]
theorem fq_neg (s : Bool) (n d : Nat) : -fq s n d = fq (!s) n d := by
  cases s <;> simp [fq, Rat.neg_mkRat]
theorem fq_div (s : Bool) (n d : Nat) : fq s n d = (if s then -(n : Rat) else n) / (d : Rat) := by
  unfold fq
  rw [Rat.mkRat_eq_div]
  cases s <;> simp <;> rfl
theorem fq_mul (s t : Bool) (a b c d : Nat) : fq s a b * fq t c d = fq (s != t) (a * c) (b * d) := by
  unfold fq
  rw [Rat.mkRat_mul_mkRat]
  cases s <;> cases t <;> simp <;> congr 1 <;> grind
theorem fq_over (s t : Bool) (a b c d : Nat) : fq s a b / fq t c d = fq (s != t) (a * d) (b * c) := by
  by_cases hc : c = 0
  · subst hc; rw [fq_zero, Nat.mul_zero, fq_none]; simp [Rat.div_def]
  by_cases hd : d = 0
  · subst hd; rw [fq_none, Nat.mul_zero, fq_zero]; simp [Rat.div_def]
  by_cases hb : b = 0
  · subst hb; rw [fq_none, Nat.zero_mul, fq_none]; simp [Rat.div_def]
  rw [fq_div, fq_div, fq_div]
  have h1 : (c : Rat) ≠ 0 := by simpa using hc
  have h2 : (d : Rat) ≠ 0 := by simpa using hd
  have h3 : (b : Rat) ≠ 0 := by simpa using hb
  cases s <;> cases t <;> simp <;> grind
theorem fq_add_same (s : Bool) (a b c d : Nat) (hb : b ≠ 0) (hd : d ≠ 0) : fq s a b + fq s c d = fq s (a * d + c * b) (b * d) := by
  unfold fq
  rw [Rat.mkRat_add_mkRat _ _ hb hd]
  cases s <;> simp <;> grind
theorem fq_add_ge (s t : Bool) (a b c d : Nat) (hb : b ≠ 0) (hd : d ≠ 0) (hst : s ≠ t) (h : c * b ≤ a * d) : fq s a b + fq t c d = fq s (a * d - c * b) (b * d) := by
  unfold fq
  rw [Rat.mkRat_add_mkRat _ _ hb hd]
  have e : ((a * d - c * b : Nat) : Int) = (a : Int) * d - c * b := by rw [Int.ofNat_sub h]; simp
  rw [e]
  cases s <;> cases t <;> first | exact absurd rfl hst | (simp <;> grind)
theorem fq_num {s : Bool} {n d : Nat} (hd : d ≠ 0) : (fq s n d).num.natAbs = n / Nat.gcd n d := by
  unfold fq
  rw [Rat.num_mkRat, if_neg hd]
  cases s
  · simp [Nat.gcd_comm]
    exact Int.natAbs_natCast (n / Nat.gcd n d)
  · simp
    rw [Nat.gcd_comm d n]
    obtain ⟨k, hk⟩ := Nat.gcd_dvd_left n d
    have h0 : 0 < Nat.gcd n d := Nat.gcd_pos_of_pos_right n (Nat.pos_of_ne_zero hd)
    obtain ⟨g, hg⟩ : ∃ g, g = Nat.gcd n d := ⟨_, rfl⟩
    rw [← hg] at hk h0 ⊢
    subst hk
    rw [Nat.mul_div_cancel_left _ h0, show -((g * k : Nat) : Int) = (g : Int) * (-(k : Int)) from by grind, Int.mul_ediv_cancel_left _ (by omega)]
    simp
theorem fq_den {s : Bool} {n d : Nat} (hd : d ≠ 0) : (fq s n d).den = d / Nat.gcd n d := by
  unfold fq
  rw [Rat.den_mkRat, if_neg hd]
  cases s <;> simp [Nat.gcd_comm]
theorem fq_sign {s : Bool} {n d : Nat} (hd : d ≠ 0) : decide ((fq s n d).num < 0) = if n = 0 then false else s := by
  by_cases hn : n = 0
  · subst hn; simp [fq_zero]
  · rw [if_neg hn]
    have h0 : 0 < Nat.gcd n d := Nat.gcd_pos_of_pos_right n (Nat.pos_of_ne_zero hd)
    have h1 : 0 < n / Nat.gcd n d := Nat.div_pos (Nat.le_of_dvd (Nat.pos_of_ne_zero hn) (Nat.gcd_dvd_left n d)) h0
    have h2 := fq_num (s := s) (n := n) hd
    cases s
    · have h3 : 0 ≤ (fq false n d).num := by
        unfold fq
        rw [Rat.num_mkRat, if_neg hd]
        simp
        exact Int.ediv_nonneg (by omega) (by omega)
      simp; simpa using h3
    · have h3 : (fq true n d).num ≤ 0 := by
        have : 0 ≤ (fq false n d).num := by
          unfold fq
          rw [Rat.num_mkRat, if_neg hd]
          simp
          exact Int.ediv_nonneg (by omega) (by omega)
        have e : fq true n d = - fq false n d := by rw [fq_neg]; rfl
        rw [e, Rat.neg_num]
        omega
      simp only [decide_eq_true_eq]
      omega
/-- A rational is its own fraction. -/
theorem fq_self (q : Rat) : fq (decide (q.num < 0)) q.num.natAbs q.den = q := by
  unfold fq
  by_cases h : q.num < 0
  · rw [decide_eq_true h, if_pos rfl, show -((q.num.natAbs : Nat) : Int) = q.num from by omega, Rat.mkRat_self]
  · rw [decide_eq_false h, if_neg (by simp), show ((q.num.natAbs : Nat) : Int) = q.num from by omega, Rat.mkRat_self]
theorem fq_int (z : Int) : fq (decide (z < 0)) z.natAbs 1 = z := by
  exact fq_self (z : Rat)
theorem fq_nat (n : Nat) : fq false n 1 = n := by rw [fq_div]; simp; grind
theorem fq_ints (a b : Int) : fq (decide (a < 0) != decide (b < 0)) a.natAbs b.natAbs = (a : Rat) / (b : Rat) := by
  have h := fq_over (decide (a < 0)) (decide (b < 0)) a.natAbs 1 b.natAbs 1
  rw [fq_int, fq_int, Nat.mul_one, Nat.one_mul] at h
  exact h.symm
theorem fq_abs (s : Bool) (n d : Nat) : fq false n d = (fq s n d).abs := by
  have h0 : 0 ≤ fq false n d := by
    rw [← Rat.num_nonneg]
    by_cases hd : d = 0
    · subst hd; rw [fq_none]; simp
    · have := fq_sign (s := false) (n := n) hd
      simp at this
      simpa using this
  cases s
  · rw [Rat.abs_of_nonneg h0]
  · rw [show fq true n d = - fq false n d from by rw [fq_neg]; rfl, Rat.abs_neg, Rat.abs_of_nonneg h0]

/-- The sign of a number. -/
def sgn (q : Rat) : Int := if q < 0 then -1 else if q = 0 then 0 else 1
theorem fq_pos {n d : Nat} (hn : n ≠ 0) (hd : d ≠ 0) : 0 < fq false n d := by
  have h1 := fq_sign (s := false) (n := n) hd
  have h2 : (fq false n d).num ≠ 0 := by
    have := fq_num (s := false) (n := n) hd
    have h0 : 0 < Nat.gcd n d := Nat.gcd_pos_of_pos_right n (Nat.pos_of_ne_zero hd)
    have h1 : 0 < n / Nat.gcd n d := Nat.div_pos (Nat.le_of_dvd (Nat.pos_of_ne_zero hn) (Nat.gcd_dvd_left n d)) h0
    omega
  rw [if_neg hn] at h1
  simp at h1
  have h3 : fq false n d ≠ 0 := fun h => h2 (by rw [h]; rfl)
  exact Rat.lt_of_le_of_ne h1 (Ne.symm h3)
theorem sgn_zero : sgn 0 = 0 := by decide +kernel
theorem sgn_pos {q : Rat} (h : 0 < q) : sgn q = 1 := by unfold sgn; rw [if_neg (by grind), if_neg (by grind)]
theorem sgn_neg {q : Rat} (h : q < 0) : sgn q = -1 := by unfold sgn; rw [if_pos h]
theorem sgn_fq (s : Bool) (n d : Nat) (hd : d ≠ 0) : sgn (fq s n d) = if n = 0 then 0 else if s = true then -1 else 1 := by
  by_cases hn : n = 0
  · subst hn; rw [fq_zero, if_pos rfl, sgn_zero]
  · rw [if_neg hn]
    have hp := fq_pos hn hd
    cases s
    · rw [sgn_pos hp]; rfl
    · rw [show fq true n d = - fq false n d from by rw [fq_neg]; rfl, sgn_neg (by grind)]; rfl
theorem sgn_cases (q : Rat) : (q < 0 ∧ sgn q = -1) ∨ (q = 0 ∧ sgn q = 0) ∨ (0 < q ∧ sgn q = 1) := by
  by_cases h : q < 0
  · exact .inl ⟨h, sgn_neg h⟩
  by_cases h0 : q = 0
  · subst h0; exact .inr (.inl ⟨rfl, sgn_zero⟩)
  · have : 0 < q := by grind
    exact .inr (.inr ⟨this, sgn_pos this⟩)
/-- The comparison that the program makes. -/
theorem sgn_sub_lt {a b : Rat} (h : sgn a < sgn b) : sgn (a - b) = -1 := by
  apply sgn_neg
  rcases sgn_cases a with ⟨h1, e1⟩ | ⟨h1, e1⟩ | ⟨h1, e1⟩ <;> rcases sgn_cases b with ⟨h2, e2⟩ | ⟨h2, e2⟩ | ⟨h2, e2⟩ <;> first | omega | grind
theorem sgn_sub_gt {a b : Rat} (h : sgn b < sgn a) : sgn (a - b) = 1 := by
  apply sgn_pos
  rcases sgn_cases a with ⟨h1, e1⟩ | ⟨h1, e1⟩ | ⟨h1, e1⟩ <;> rcases sgn_cases b with ⟨h2, e2⟩ | ⟨h2, e2⟩ | ⟨h2, e2⟩ <;> first | omega | grind
theorem fq_sub (s : Bool) (a b c d : Nat) (hb : b ≠ 0) (hd : d ≠ 0) : fq s a b - fq s c d = mkRat (if s then (c * b : Int) - a * d else (a * d : Int) - c * b) (b * d) := by
  rw [Rat.sub_eq_add_neg, fq_neg]
  unfold fq
  rw [Rat.mkRat_add_mkRat _ _ hb hd]
  cases s <;> simp <;> grind
theorem sgn_mkRat (z : Int) {d : Nat} (hd : d ≠ 0) : sgn (mkRat z d) = z.sign := by
  have e : mkRat z d = fq (decide (z < 0)) z.natAbs d := by
    unfold fq
    by_cases h : z < 0
    · rw [decide_eq_true h, if_pos rfl, show -((z.natAbs : Nat) : Int) = z from by omega]
    · rw [decide_eq_false h, if_neg (by simp), show ((z.natAbs : Nat) : Int) = z from by omega]
  rw [e, sgn_fq _ _ _ hd]
  rcases Int.lt_trichotomy z 0 with h | h | h
  · rw [Int.sign_eq_neg_one_of_neg h, if_neg (by omega), if_pos (by simpa using h)]
  · subst h; rfl
  · rw [Int.sign_eq_one_of_pos h, if_neg (by omega), if_neg (by simp; omega)]
theorem cmp_fq (s : Bool) (a b c d : Nat) (hb : b ≠ 0) (hd : d ≠ 0) : sgn (fq s a b - fq s c d) = (if s = true then -1 else 1) * cmpN (a * d) (c * b) := by
  rw [fq_sub s a b c d hb hd, sgn_mkRat _ (Nat.mul_ne_zero hb hd)]
  rcases Nat.lt_trichotomy (a * d) (c * b) with h | h | h
  · rw [cmpN_lt h]
    cases s
    · rw [if_neg (by simp), if_neg (by simp), Int.sign_eq_neg_one_of_neg (by rw [← Int.natCast_mul, ← Int.natCast_mul]; omega)]; rfl
    · rw [if_pos rfl, if_pos rfl, Int.sign_eq_one_of_pos (by rw [← Int.natCast_mul, ← Int.natCast_mul]; omega)]; rfl
  · rw [cmpN_eq h]
    have e : (a : Int) * d - c * b = 0 := by rw [← Int.natCast_mul, ← Int.natCast_mul]; omega
    have e' : (c : Int) * b - a * d = 0 := by omega
    cases s
    · rw [if_neg (by simp), e]; rfl
    · rw [if_pos rfl, e']; rfl
  · rw [cmpN_gt h]
    cases s
    · rw [if_neg (by simp), if_neg (by simp), Int.sign_eq_one_of_pos (by rw [← Int.natCast_mul, ← Int.natCast_mul]; omega)]; rfl
    · rw [if_pos rfl, if_pos rfl, Int.sign_eq_neg_one_of_neg (by rw [← Int.natCast_mul, ← Int.natCast_mul]; omega)]; rfl

/-- Toward zero, and the integers beside. -/
theorem fq_floor {s : Bool} {n d : Nat} (hd : d ≠ 0) : (fq s n d).floor = if s = true then -((n / d : Nat) : Int) - (if n % d = 0 then 0 else 1) else ((n / d : Nat) : Int) := by
  have hD : (0 : Rat) < d := by rw [Rat.natCast_pos]; omega
  have key : ∀ z : Int, ∀ k : Int, k * d ≤ z → z < (k + 1) * d → (mkRat z d).floor = k := by
    intro z k h1 h2
    have e1 : (k : Rat) ≤ mkRat z d := by
      rw [Rat.mkRat_eq_div]
      have := (Rat.intCast_le_intCast (a := k * d) (b := z)).2 h1
      rw [Rat.intCast_mul] at this
      have hx : (z : Rat) / (d : Rat) * d = z := Rat.div_mul_cancel (by grind)
      have h3 : (k : Rat) * d ≤ (z : Rat) / (d : Rat) * d := by rw [hx]; exact this
      exact Rat.le_of_mul_le_mul_right h3 hD
    have e2 : mkRat z d < ((k + 1 : Int) : Rat) := by
      rw [Rat.mkRat_eq_div, Rat.div_lt_iff hD]
      have := (Rat.intCast_lt_intCast (a := z) (b := (k + 1) * d)).2 h2
      rw [Rat.intCast_mul] at this
      exact this
    have e3 := Rat.le_floor_iff.2 e1
    have e4 := Rat.floor_lt_iff.2 e2
    omega
  unfold fq
  have hdm := Nat.div_add_mod n d
  have hml := Nat.mod_lt n (Nat.pos_of_ne_zero hd)
  cases s
  · rw [if_neg (by simp), if_neg (by simp)]
    apply key
    · rw [← Int.natCast_mul]; rw [Nat.mul_comm] at hdm; omega
    · rw [Int.add_mul, ← Int.natCast_mul]; rw [Nat.mul_comm] at hdm; omega
  · rw [if_pos rfl, if_pos rfl]
    rw [Nat.mul_comm] at hdm
    split
    · apply key
      · rw [Int.sub_zero, Int.neg_mul, ← Int.natCast_mul]; omega
      · rw [Int.sub_zero, Int.add_mul, Int.neg_mul, ← Int.natCast_mul]; omega
    · apply key
      · rw [Int.sub_mul, Int.neg_mul, ← Int.natCast_mul]; omega
      · rw [show -((n / d : Nat) : Int) - 1 + 1 = -((n / d : Nat) : Int) from by omega, Int.neg_mul, ← Int.natCast_mul]; omega

/-- How many limbs a number has, numerator or denominator. -/
def qs (q : Rat) : Nat := max (ln q.num.natAbs) (ln q.den)
theorem qs_num (q : Rat) : ln q.num.natAbs ≤ qs q := by unfold qs; omega
theorem qs_den (q : Rat) : ln q.den ≤ qs q := by unfold qs; omega
theorem qs_fq {s : Bool} {n d : Nat} {B : Nat} (hn : ln n ≤ B) (hd : ln d ≤ B) (h1 : 1 ≤ B) : qs (fq s n d) ≤ B := by
  by_cases h : d = 0
  · subst h
    rw [fq_none]
    unfold qs
    rw [show ((0 : Rat).num.natAbs) = 0 from rfl, show (0 : Rat).den = 1 from rfl, ln_zero, ln, digs_small (by omega) (by omega)]
    simpa using h1
  · unfold qs
    rw [fq_num h, fq_den h]
    have e1 := ln_div n (Nat.gcd n d)
    have e2 := ln_div d (Nat.gcd n d)
    omega
theorem qs_pos (q : Rat) : 1 ≤ qs q := by
  have h : ln q.den ≠ 0 := by rw [Ne, ln_eq_zero]; exact q.den_nz
  have := qs_den q
  omega
theorem qs_mul (a b : Rat) : qs (a * b) ≤ qs a + qs b := by
  rw [← fq_self a, ← fq_self b, fq_mul, fq_self, fq_self]
  refine qs_fq (Nat.le_trans (ln_mul _ _) ?_) (Nat.le_trans (ln_mul _ _) ?_) (by have := qs_pos a; omega)
  · have := qs_num a; have := qs_num b; omega
  · have := qs_den a; have := qs_den b; omega
theorem qs_div (a b : Rat) : qs (a / b) ≤ qs a + qs b := by
  rw [← fq_self a, ← fq_self b, fq_over, fq_self, fq_self]
  refine qs_fq (Nat.le_trans (ln_mul _ _) ?_) (Nat.le_trans (ln_mul _ _) ?_) (by have := qs_pos a; omega)
  · have := qs_num a; have := qs_den b; omega
  · have := qs_den a; have := qs_num b; omega
theorem qs_neg (a : Rat) : qs (-a) = qs a := by unfold qs; simp
theorem qs_add (a b : Rat) : qs (a + b) ≤ qs a + qs b + 1 := by
  have e : a + b = mkRat (a.num * b.den + b.num * a.den) (a.den * b.den) := Rat.add_def' a b
  have e2 : a + b = fq (decide (a.num * b.den + b.num * a.den < 0)) (a.num * b.den + b.num * a.den).natAbs (a.den * b.den) := by
    rw [e]; unfold fq
    congr 1
    by_cases h : a.num * b.den + b.num * a.den < 0
    · rw [decide_eq_true h, if_pos rfl]; omega
    · rw [decide_eq_false h, if_neg (by simp)]; omega
  rw [e2]
  have h1 := qs_num a
  have h2 := qs_num b
  have h3 := qs_den a
  have h4 := qs_den b
  refine qs_fq ?_ (Nat.le_trans (ln_mul _ _) (by omega)) (by omega)
  have h5 : (a.num * b.den + b.num * a.den).natAbs ≤ a.num.natAbs * b.den + b.num.natAbs * a.den := by
    refine Nat.le_trans (Int.natAbs_add_le _ _) ?_
    rw [Int.natAbs_mul, Int.natAbs_mul]
    simp
  have h6 := ln_mono h5
  have h7 := ln_add (a.num.natAbs * b.den) (b.num.natAbs * a.den)
  have h8 := ln_mul a.num.natAbs b.den
  have h9 := ln_mul b.num.natAbs a.den
  omega
theorem qs_sub (a b : Rat) : qs (a - b) ≤ qs a + qs b + 1 := by
  have := qs_add a (-b)
  rw [qs_neg] at this
  rwa [Rat.sub_eq_add_neg]
theorem qs_int (z : Int) (h1 : -9223372036854775808 ≤ z) (h2 : z ≤ 9223372036854775807) : qs (z : Rat) ≤ 3 := by
  unfold qs
  have e1 : ln z.natAbs ≤ 3 := ln_le.2 (by omega)
  have e2 : ln 1 ≤ 3 := ln_le.2 (by omega)
  simp
  omega
/-- The sum of limbs of any words below 2^32. -/
theorem nv_lt32 (l : List Nat) (h : ∀ a ∈ l, a < 4294967296) : nv l + 5 ≤ 5 * 1000000000 ^ l.length := by
  induction l with
  | nil => simp [nv]
  | cons a l ih =>
    have h1 := h a (by simp)
    have h2 := ih (fun b hb => h b (by simp [hb]))
    simp only [nv, List.length_cons, Nat.pow_succ]
    omega
theorem ln_nv32 {l : List Nat} (h : ∀ a ∈ l, a < 4294967296) : ln (nv l) ≤ l.length + 1 := by
  rw [ln_le, Nat.pow_succ]
  have := nv_lt32 l h
  have : 0 < 1000000000 ^ l.length := Nat.pow_pos (by omega)
  omega
theorem qs_floor (q : Rat) : qs (q.floor : Rat) ≤ qs q + 1 := by
  have e := fq_floor (s := decide (q.num < 0)) (n := q.num.natAbs) (d := q.den) q.den_nz
  rw [fq_self] at e
  have h0 : ln q.floor.natAbs ≤ max (ln (q.num.natAbs / q.den)) (ln 1) + 1 := by
    refine Nat.le_trans (ln_mono ?_) (ln_add _ _)
    rw [e]
    obtain ⟨k, hk⟩ : ∃ k : Nat, k = q.num.natAbs / q.den := ⟨_, rfl⟩
    rw [← hk]
    split
    · split <;> omega
    · omega
  have h1 := ln_div q.num.natAbs q.den
  have h2 := qs_num q
  have h3 := qs_pos q
  have h4 : ln 1 = 1 := by rw [ln, digs_small (by omega) (by omega)]; rfl
  unfold qs
  simp only [Rat.num_intCast, Rat.den_intCast]
  have h5 : ln 1 ≤ qs q + 1 := by omega
  have h6 : ln q.floor.natAbs ≤ qs q + 1 := by omega
  unfold qs at h5 h6
  omega
end Go.Proofs.YtefiapjfiojaoaaDoor

/-
  Rational numbers in memory, by their values: canonical ones, fractions, and numbers as they come in.
-/
namespace Go.Proofs.YtefiapjfiojaoaaDoor
open Go.RowKit

/-- The canonical form of q. -/
def QV (w : World) (v : Value) (q : Rat) : Prop := FV w v (decide (q.num < 0)) q.num.natAbs q.den
/-- A fraction of at most B limbs with the value q. -/
def FQ (w : World) (v : Value) (q : Rat) (B : Nat) : Prop := ∃ s n d, FV w v s n d ∧ d ≠ 0 ∧ ln n ≤ B ∧ ln d ≤ B ∧ q = fq s n d
/-- A number as it comes in, of at most B words, with the value q. -/
def IV (w : World) (v : Value) (q : Rat) (B : Nat) : Prop := ∃ s xs ys, RV w v s xs ys ∧ xs.length ≤ B ∧ ys.length ≤ B ∧ q = fq s (nv xs) (nv ys)
def RetQ (w0 : World) (q : Rat) (e : Ending) (w' : World) : Prop := ∃ v, e = .returned v ∧ QV w' v q ∧ Up w0 w'
def RetFQ (w0 : World) (q : Rat) (B : Nat) (e : Ending) (w' : World) : Prop := ∃ v, e = .returned v ∧ FQ w' v q B ∧ Up w0 w'
section
variable {w w' : World} {v : Value} {q : Rat} {B B' : Nat}
theorem QV.up (h : QV w v q) (hu : Up w w') : QV w' v q := FV.up h hu
theorem FQ.up (h : FQ w v q B) (hu : Up w w') : FQ w' v q B := by
  obtain ⟨s, n, d, h1, h2⟩ := h
  exact ⟨s, n, d, h1.up hu, h2⟩
theorem IV.up (h : IV w v q B) (hu : Up w w') : IV w' v q B := by
  obtain ⟨s, n, d, h1, h2⟩ := h
  exact ⟨s, n, d, h1.up hu, h2⟩
theorem FQ.more (h : FQ w v q B) (hB : B ≤ B') : FQ w v q B' := by
  obtain ⟨s, n, d, h1, h2, h3, h4, h5⟩ := h
  exact ⟨s, n, d, h1, h2, by omega, by omega, h5⟩
theorem IV.more (h : IV w v q B) (hB : B ≤ B') : IV w v q B' := by
  obtain ⟨s, n, d, h1, h2, h3, h4⟩ := h
  exact ⟨s, n, d, h1, by omega, by omega, h4⟩
theorem QV.fq (h : QV w v q) (hB : qs q ≤ B) : FQ w v q B := ⟨_, _, _, h, q.den_nz, Nat.le_trans (qs_num q) hB, Nat.le_trans (qs_den q) hB, (fq_self q).symm⟩
theorem lt32_digs (n : Nat) : ∀ a ∈ digs n, a < 4294967296 := fun a ha => Nat.lt_trans (digs_lt n a ha) (by omega)
theorem FQ.iv (h : FQ w v q B) : IV w v q B := by
  obtain ⟨s, n, d, ⟨A, ca, A', cb, rfl, h1, h2, h3, h4, h5, h6⟩, k1, k2, k3, k4⟩ := h
  exact ⟨s, digs n, digs d, ⟨A, ca, A', cb, rfl, h1, h2, lt32_digs n, lt32_digs d, h3, h4, h5, h6⟩, k2, k3, by rw [nv_digs, nv_digs]; exact k4⟩
theorem QV.iv (h : QV w v q) (hB : qs q ≤ B) : IV w v q B := (h.fq hB).iv
theorem IV.shape (h : IV w v q B) : ∃ s A n c A' n' c', v = .agg #[.bool s, .slice A n c, .slice A' n' c'] := by
  obtain ⟨s, xs, ys, ⟨A, ca, A', cb, rfl, _⟩, _⟩ := h
  exact ⟨_, _, _, _, _, _, _, rfl⟩
theorem FQ.shape (h : FQ w v q B) : ∃ s A n c A' n' c', v = .agg #[.bool s, .slice A n c, .slice A' n' c'] := h.iv.shape
theorem QV.shape (h : QV w v q) : ∃ s A n c A' n' c', v = .agg #[.bool s, .slice A n c, .slice A' n' c'] := (h.fq (Nat.le_refl _)).shape
theorem FQ.qs (h : FQ w v q B) : qs q ≤ B := by
  obtain ⟨s, n, d, h1, h2, h3, h4, rfl⟩ := h
  exact qs_fq h3 h4 (by have : ln d ≠ 0 := fun e => h2 (ln_eq_zero.1 e); omega)
theorem IV.qs (h : IV w v q B) : Go.Proofs.YtefiapjfiojaoaaDoor.qs q ≤ B + 1 := by
  obtain ⟨s, xs, ys, ⟨A, ca, A', cb, rfl, h1, h2, h3, h4, _⟩, k1, k2, rfl⟩ := h
  exact qs_fq (Nat.le_trans (ln_nv32 h3) (by omega)) (Nat.le_trans (ln_nv32 h4) (by omega)) (by omega)
end
section
variable {w w0 w4 : World} {g : Nat} {t : TypeId} {b s : Bool} {A A' C C' : Option Addr} {l l' k k' n n' c c' : Nat} {q : Rat} {B : Nat} {x y z : Value}
theorem FV.far {s' : Bool} {m d : Nat} {v : Value} (h : FV w v s' m d) {cs : Array Value} (r : Blk w g t cs) (hc : ∀ (i : Nat) (k : IntKind) (z : Int), cs[i]? ≠ some (Value.int k z)) {w' : World} (ho : w.grownBy w' (some g)) : FV w' v s' m d := by
  obtain ⟨A, ca, A', cb, rfl, h1, h2, h3, h4, h5, h6⟩ := h
  exact ⟨A, ca, A', cb, rfl, h1.far r hc ho, h2.far r hc ho, h3, h4, h5, h6⟩
theorem FQ.far {v : Value} (h : FQ w v q B) {cs : Array Value} (r : Blk w g t cs) (hc : ∀ (i : Nat) (k : IntKind) (z : Int), cs[i]? ≠ some (Value.int k z)) {w' : World} (ho : w.grownBy w' (some g)) : FQ w' v q B := by
  obtain ⟨s, n, d, h1, h2⟩ := h
  exact ⟨s, n, d, FV.far h1 r hc ho, h2⟩
/-- What a function leaves that has stored its result in the box g. -/
theorem ret_q (r : Blk w4 g t #[.bool b, .slice C l k, .slice C' l' k']) {v : Value} (hq : QV w4 v q) (hU : Up w w4) (hg : w.heap.size ≤ g) :
    RetQ w q (.returned v) (((w4.setCell ⟨g, 0, none⟩ x).setCell ⟨g, 1, none⟩ y).setCell ⟨g, 2, none⟩ z) :=
  ⟨_, rfl, FV.far hq r noint3 (only_tri _ _ _), up_tri hU hg _ _ _⟩
theorem ret_fq (r : Blk w4 g t #[.bool b, .slice C l k, .slice C' l' k']) {v : Value} (hq : FQ w4 v q B) (hU : Up w w4) (hg : w.heap.size ≤ g) :
    RetFQ w q B (.returned v) (((w4.setCell ⟨g, 0, none⟩ x).setCell ⟨g, 1, none⟩ y).setCell ⟨g, 2, none⟩ z) :=
  ⟨_, rfl, hq.far r noint3 (only_tri _ _ _), up_tri hU hg _ _ _⟩
end

section
variable {v : Value} {q : Rat} {B : Nat} {w : World}
theorem load_q (h : IV w v q B) (hB : B ≤ 17179869183) : Calls Tryd.prog 19 #[v] w (RetFQ w q (B + 1)) := by
  obtain ⟨s, xs, ys, ⟨A, ca, A', cb, rfl, h1, h2, h3, h4, _⟩, k1, k2, rfl⟩ := h
  refine (load_any s A ca A' cb xs ys w h1 h2 h3 h4 (by omega) (by omega)).mono ?_
  rintro e w' ⟨v, rfl, hF, hU⟩
  refine ⟨v, rfl, ⟨_, _, _, hF, ldD_ne, ?_, ?_, ?_⟩, hU⟩
  · exact Nat.le_trans (ln_mono (ldN_le _ _)) (Nat.le_trans (ln_nv32 h3) (by omega))
  · exact ln_ldD (Nat.le_trans (ln_nv32 h4) (by omega)) (by omega)
  · unfold ldS ldN ldD
    by_cases hz : nv xs = 0 ∨ nv ys = 0
    · rw [if_pos hz, if_pos hz, if_pos hz, fq_zero]
      rcases hz with e | e
      · rw [e, fq_zero]
      · rw [e, fq_none]
    · rw [if_neg hz, if_neg hz, if_neg hz]
theorem lowest_q (h : FQ w v q B) (hB : B ≤ 17179869183) : Calls Tryd.prog 27 #[v] w (RetQ w q) := by
  obtain ⟨s, n, d, ⟨A, ca, A', cb, rfl, h1, h2, h3, h4, h5, h6⟩, k1, k2, k3, rfl⟩ := h
  have := lowest_any s A ca A' cb n d w h1 h2 h3 h4 h5 h6 (by omega) (by omega) k1
  unfold RetQ QV
  rw [fq_num k1, fq_den k1, fq_sign k1]
  exact this
theorem store_q (h : FQ w v q B) (hB : B ≤ 17179869183) : Calls Tryd.prog 20 #[v] w (RetQ w q) := by
  obtain ⟨s, n, d, ⟨A, ca, A', cb, rfl, h1, h2, h3, h4, h5, h6⟩, k1, k2, k3, rfl⟩ := h
  have := store_any s A ca A' cb n d w h1 h2 h3 h4 h5 h6 (by omega) (by omega) k1
  unfold RetQ QV
  rw [fq_num k1, fq_den k1, fq_sign k1]
  exact this
theorem fsign_q (h : FQ w v q B) (hB : B ≤ 17592186044416) : Calls Tryd.prog 25 #[v] w fun e w' => e = .returned (.int .i64 (sgn q)) ∧ Up w w' := by
  obtain ⟨s, n, d, ⟨A, ca, A', cb, rfl, h1, h2, h3, h4, h5, h6⟩, k1, k2, k3, rfl⟩ := h
  rw [sgn_fq _ _ _ k1]
  exact fsign_any s A ca A' cb n d w (by omega)
theorem fromInt_q (z : Int) (h1 : -9223372036854775808 ≤ z) (h2 : z ≤ 9223372036854775807) : Calls Tryd.prog 10 #[.int .i64 z] w (RetQ w (z : Rat)) := fromInt_any z w h1 h2
theorem small_q (x y : Int) (h1 : -9223372036854775808 ≤ x) (h2 : x ≤ 9223372036854775807) (h3 : -9223372036854775808 ≤ y) (h4 : y ≤ 9223372036854775807) :
    Calls Tryd.prog 30 #[.int .i64 x, .int .i64 y] w (RetQ w ((x : Rat) / (y : Rat))) := by
  by_cases hy : y = 0
  · subst hy
    rw [show (x : Rat) / ((0 : Int) : Rat) = 0 from by simp [Rat.div_def]]
    exact small_zero x w
  · have := small_yes x y w h1 h2 h3 h4 hy
    have hd : y.natAbs ≠ 0 := by omega
    unfold RetQ QV
    rw [← fq_ints, fq_num hd, fq_den hd, fq_sign hd]
    exact this
end
end Go.Proofs.YtefiapjfiojaoaaDoor

/-
  Numbers stay where they are: cells of integers are kept.
-/
namespace Go.Proofs.YtefiapjfiojaoaaDoor
open Go.RowKit

theorem lt_of_cell' {w : World} {p : Addr} {v : Value} (h : w.cell? p = some v) : p.block < w.heap.size := by
  rcases Nat.lt_or_ge p.block w.heap.size with hlt | hge
  · exact hlt
  · have hn := Array.getElem?_eq_none hge
    cases p with
    | mk b o s => cases s <;> simp [World.cell?, hn] at h

/-- Every cell that holds an integer holds it still. -/
def Kp (w w' : World) : Prop := w.heap.size ≤ w'.heap.size ∧ ∀ (p : Addr) (k : IntKind) (z : Int), w.cell? p = some (.int k z) → w'.cell? p = some (.int k z)
section
variable {a b c w w' : World}
theorem Kp.refl (w : World) : Kp w w := ⟨Nat.le_refl _, fun _ _ _ h => h⟩
theorem Kp.trans (h : Kp a b) (k : Kp b c) : Kp a c := ⟨Nat.le_trans h.1 k.1, fun p q z e => k.2 p q z (h.2 p q z e)⟩
theorem Kp.of (h : Up a b) : Kp a b := ⟨h.size, fun p _ _ e => (h.cell (p := p) (lt_of_cell' e)).trans e⟩
theorem Kp.drew (h : Kp a b) : Kp a b.drew := h
theorem Kp.drewN (h : Kp a b) (n : Nat) : Kp a (b.drewN n) := h
theorem Kp.alloc (h : Kp a b) (o : Obj) : Kp a (b.alloc o) := h.trans (Kp.of ((Below.refl _ _).alloc (Nat.le_refl _) _))
theorem Kp.setCell (h : Kp a b) {p : Addr} {v : Value} (hc : b.cell? p = some v) (hn : ∀ k z, v ≠ .int k z) (u : Value) : Kp a (b.setCell p u) := by
  refine h.trans ⟨by simp, fun q k z e => ?_⟩
  have hne : p ≠ q := by
    rintro rfl
    rw [hc] at e
    injection e with e
    exact hn k z e
  rw [World.cell?_setCell_other _ _ _ _ hne]; exact e
theorem SI.kp {B : Nat} {K : IntKind} {A : Option Addr} {zs : List Int} (h : SI w B K A zs) (hk : Kp w w') : SI w' B K A zs := fun h0 => by
  obtain ⟨ad, e, hl, hc⟩ := h h0
  exact ⟨ad, e, hl, fun j hj => hk.2 _ _ _ (hc j hj)⟩
theorem NS.kp {A : Option Addr} {x : Nat} (h : NS w A x) (hk : Kp w w') : NS w' A x := SI.more (SI.kp h hk) hk.1
theorem FV.kp {v : Value} {s : Bool} {n d : Nat} (h : FV w v s n d) (hk : Kp w w') : FV w' v s n d := by
  obtain ⟨A, ca, A', cb, rfl, h1, h2, h3⟩ := h
  exact ⟨A, ca, A', cb, rfl, h1.kp hk, h2.kp hk, h3⟩
theorem QV.kp {v : Value} {q : Rat} (h : QV w v q) (hk : Kp w w') : QV w' v q := FV.kp h hk
theorem FQ.kp {v : Value} {q : Rat} {B : Nat} (h : FQ w v q B) (hk : Kp w w') : FQ w' v q B := by
  obtain ⟨s, n, d, h1, h2⟩ := h
  exact ⟨s, n, d, h1.kp hk, h2⟩
theorem IV.kp {v : Value} {q : Rat} {B : Nat} (h : IV w v q B) (hk : Kp w w') : IV w' v q B := by
  obtain ⟨s, xs, ys, ⟨A, ca, A', cb, rfl, h1, h2, h3⟩, h4⟩ := h
  exact ⟨s, xs, ys, ⟨A, ca, A', cb, rfl, SI.more (SI.kp h1 hk) hk.1, SI.more (SI.kp h2 hk) hk.1, h3⟩, h4⟩
/-- A struct's three cells, stored anew. -/
theorem Kp.tri {g : Nat} {t : TypeId} {s : Bool} {A A' : Option Addr} {l l' c c' : Nat} (h : Kp a b) (r : Blk b g t #[.bool s, .slice A l c, .slice A' l' c']) {s' : Bool} {C C' : Option Addr} {m m' d d' : Nat} :
    Kp a (((b.setCell ⟨g, 0, none⟩ (.bool s')).setCell ⟨g, 1, none⟩ (.slice C m d)).setCell ⟨g, 2, none⟩ (.slice C' m' d')) := by
  have r1 := Blk.set_ r 0 (.bool s')
  have r2 := Blk.set_ r1 1 (.slice C m d)
  have h0 := r.cell 0
  have h1 := r1.cell 1
  have h2 := r2.cell 2
  simp at h0 h1 h2
  exact ((h.setCell h0 (by simp) _).setCell h1 (by simp) _).setCell h2 (by simp) _
end
theorem tri_blk {w : World} {g : Nat} {t : TypeId} {a b c : Value} (h : w.heap[g]? = some (.cells #[a, b, c] t (0, 0))) : Blk w g t #[a, b, c] := h
end Go.Proofs.YtefiapjfiojaoaaDoor

/-
  Rational numbers as values: plus.
-/
namespace Go.Proofs.YtefiapjfiojaoaaDoor
open Go.RowKit

set_option maxRecDepth 100000 in
set_option maxHeartbeats 6400000 in
theorem plus_q {v v' : Value} {q r : Rat} {B C : Nat} {w : World} (hf : FQ w v q B) (hg : FQ w v' r C) (hB : B + C ≤ 17179869182) :
    Calls Tryd.prog 24 #[v, v'] w (RetFQ w (q + r) (B + C + 1)) := by
  obtain ⟨s, n, d, ⟨A, ca, A', ca', rfl, n1, n2, k1, k2, k3, k4⟩, hd, hn, hdl, hq⟩ := hf
  obtain ⟨t, m, e, ⟨E, ce, E', ce', rfl, m1, m2, l1, l2, l3, l4⟩, he, hm, hel, hr⟩ := hg
  have M1 := Lib.hid (fun wx (h : Up w wx) => multiply_any A ca n E' ce' e wx (n1.up h) (m2.up h) (by omega))
  have M2 := Lib.hid (fun wx (h : Up w wx) => multiply_any E ce m A' ca' d wx (m1.up h) (n2.up h) (by omega))
  have M3 := Lib.hid (fun wx (h : Up w wx) => multiply_any A' ca' d E' ce' e wx (n2.up h) (m2.up h) (by omega))
  have hx : ln (n * e) ≤ B + C := Nat.le_trans (ln_mul n e) (by omega)
  have hy : ln (m * d) ≤ B + C := Nat.le_trans (ln_mul m d) (by omega)
  have hz : ln (d * e) ≤ B + C := Nat.le_trans (ln_mul d e) (by omega)
  have hz0 : d * e ≠ 0 := Nat.mul_ne_zero hd he
  have HS : Hid (s = t → q + r = fq s (n * e + m * d) (d * e)) := by
    rw [hq, hr]; intro h; subst h; exact fq_add_same s n d m e hd he
  have HG : Hid (s ≠ t → m * d ≤ n * e → q + r = fq s (n * e - m * d) (d * e)) := by
    rw [hq, hr]; intro h h2; exact fq_add_ge s t n d m e hd he h h2
  have HL : Hid (s ≠ t → n * e ≤ m * d → q + r = fq t (m * d - n * e) (d * e)) := by
    rw [hq, hr]; intro h h2; rw [Rat.add_comm, Nat.mul_comm d e]; exact fq_add_ge t s m e n d he hd (Ne.symm h) h2
  obtain ⟨x, hxe⟩ : ∃ x, x = n * e := ⟨_, rfl⟩
  obtain ⟨y, hye⟩ : ∃ x, x = m * d := ⟨_, rfl⟩
  obtain ⟨z, hze⟩ : ∃ x, x = d * e := ⟨_, rfl⟩
  rw [← hxe, ← hye, ← hze] at HS HG HL
  rw [← hxe] at M1 hx
  rw [← hye] at M2 hy
  rw [← hze] at M3 hz hz0
  have HZ0 := Lib.hid hz0
  clear hxe hye hze n1 n2 k1 k2 k3 k4 m1 m2 l1 l2 l3 l4 hd hn hdl he hm hel hq hr hz0
  go_enter Tryd.func24, Tryd.ntmps24
  go_wp2_with fail
  obtain ⟨w1, hw1⟩ : ∃ w1, w1 = ((w.alloc (Obj.cells #[.bool s, .slice A (ln n) ca, .slice A' (ln d) ca'] 40)).alloc (Obj.cells #[.bool t, .slice E (ln m) ce, .slice E' (ln e) ce'] 40)).alloc (Obj.cells #[.bool false, .slice none 0 0, .slice none 0 0] 40) := ⟨_, rfl⟩
  have U1 : Up w w1 := by rw [hw1]; exact (((Below.refl _ _).alloc (Nat.le_refl _) _).alloc (by simp) _).alloc (by simp; omega) _
  have a1 : Blk w1 w.heap.size 40 #[.bool s, .slice A (ln n) ca, .slice A' (ln d) ca'] := by rw [hw1]; exact ((Blk.new w _ _).alloc _).alloc _
  have b1 : Blk w1 (w.heap.size + 1) 40 #[.bool t, .slice E (ln m) ce, .slice E' (ln e) ce'] := by rw [hw1]; exact (Blk.new' _ _ _ (by simp)).alloc _
  have r1 : Blk w1 (w.heap.size + 2) 40 #[.bool false, .slice none 0 0, .slice none 0 0] := by rw [hw1]; exact Blk.new' _ _ _ (by simp)
  rw [← hw1]
  clear hw1
  have s0 := And.intro (tri a1) (tri b1)
  go_region_held3 (fun wx => (wx.cell? ⟨w.heap.size, 0, none⟩ = some (.bool s) ∧ wx.cell? ⟨w.heap.size, 1, none⟩ = some (.slice A (ln n) ca) ∧ wx.cell? ⟨w.heap.size, 2, none⟩ = some (.slice A' (ln d) ca')) ∧
      (wx.cell? ⟨w.heap.size + 1, 0, none⟩ = some (.bool t) ∧ wx.cell? ⟨w.heap.size + 1, 1, none⟩ = some (.slice E (ln m) ce) ∧ wx.cell? ⟨w.heap.size + 1, 2, none⟩ = some (.slice E' (ln e) ce')))
    (first | exact s0 | exact s2 | exact s3)
    (first
      | (go_at_call_of 21 (Value.slice A (ln n) ca); refine (M1.out _ (by exact U1.drew)).mono ?_; rintro e w2 ⟨X, cx, rfl, x1, x2, x3, hb2⟩; have U2 := Up.trans U1.drew hb2; have a2 := Blk.up (w := w1.drew) a1 hb2; have b2 := Blk.up (w := w1.drew) b1 hb2; have r2 := Blk.up (w := w1.drew) r1 hb2; have s2 := And.intro (tri a2) (tri b2))
      | (go_at_call_of 21 (Value.slice E (ln m) ce); refine (M2.out _ (by exact U2)).mono ?_; rintro e w3 ⟨Y, cy, rfl, y1, y2, y3, hb3⟩; have U3 := Up.trans U2 hb3; have a3 := Blk.up a2 hb3; have b3 := Blk.up b2 hb3; have r3 := Blk.up r2 hb3; have s3 := And.intro (tri a3) (tri b3)))
  have X3 := Lib.hid (x3.up hb3)
  have Y3 := Lib.hid y3
  have XC := Lib.hid (And.intro x1 x2)
  have YC := Lib.hid (And.intro y1 y2)
  clear hb2 hb3 s2 a2 b2 r2 x3 y3 x1 x2 y1 y2 s0 U1 U2 a1 b1 r1 M1 M2
  obtain ⟨⟨p0, p1, p2⟩, o0, o1, o2⟩ := s3
  go_wp2_with fail
  refine (M3.out w3 U3).mono ?_
  rintro e w4 ⟨Z, cz, rfl, z1, z2, z3, hb4⟩
  have U4 := U3.trans hb4
  have a4 := a3.up hb4
  have b4 := b3.up hb4
  have r4 := r3.up hb4
  have X4 := Lib.hid (X3.out.up hb4)
  have Y4 := Lib.hid (Y3.out.up hb4)
  have Z4 := Lib.hid z3
  have ZC := Lib.hid (And.intro z1 z2)
  clear p0 p1 p2 o0 o1 o2 z3 z1 z2 X3 Y3 M3 a3 b3 r3 U3 hb4
  obtain ⟨p0, p1, p2⟩ := tri a4
  obtain ⟨o0, o1, o2⟩ := tri b4
  obtain ⟨d0, d1, d2⟩ := tri r4
  have f0 := r4.frozen 0
  have f1 := r4.frozen 1
  have f2 := r4.frozen 2
  have l4 := r4.lt
  have u4 := U4.size
  by_cases hst : s = t
  · have HV := Lib.hid (HS.out hst)
    have hb : (s == t) = true := by rw [hst]; simp
    clear HS HG HL hst
    have HA := Lib.hid (fun wx (h : Up w4 wx) => add_any X cx x Y cy y wx (X4.out.up h) (Y4.out.up h) (by omega) (by omega))
    go_wp2_with fail
    go_region_held3 (fun wx => wx.cell? ⟨w.heap.size, 0, none⟩ = some (.bool s))
      (first | exact p0 | exact q0 | exact (tri (((a5.far (by simp <;> omega) _).far (by simp <;> omega) _).far (by simp <;> omega) _)).1)
      (first
        | (go_at_call 40; refine (HA.out _ (by exact (Up.refl w4).drew)).mono ?_; rintro e w5 ⟨S, cs, rfl, t1, t2, t3, hb5⟩; have hb5' : Up w4 w5 := Up.trans (Up.refl w4).drew hb5; have a5 := a4.up hb5'; have r5 := r4.up hb5'; obtain ⟨q0, _q1, _q2⟩ := tri a5; obtain ⟨g0, g1, g2⟩ := tri r5; have i0 := r5.frozen 0; have i1 := r5.frozen 1; have i2 := r5.frozen 2))
    go_wp2_with fail
    have HQ : FQ w5 (.agg #[.bool s, .slice S (ln (x + y)) cs, .slice Z (ln z) cz]) (q + r) (B + C + 1) :=
      ⟨_, _, _, ⟨_, _, _, _, rfl, t3, Z4.out.up hb5', t1, t2, ZC.out.1, ZC.out.2⟩, HZ0.out, Nat.le_trans (ln_add x y) (by omega), by omega, HV.out⟩
    obtain ⟨c0, c1, c2'⟩ := tri (tri_set r5 (.bool s) (.slice S (ln (x + y)) cs) (.slice Z (ln z) cz))
    refine bodyPost_ret (v := .agg #[.bool s, .slice S (ln (x + y)) cs, .slice Z (ln z) cz]) ?_ rfl (ret_fq r5 HQ (U4.trans hb5') (by omega))
    simp [results, Tryd.results24, go_sem, c0, c1, c2']
  · have hb : (s == t) = false := by simpa using hst
    have HC := Lib.hid (fun wx (h : Up w4 wx) => compare_any X cx x Y cy y wx (X4.out.up h) (Y4.out.up h) (by omega) (by omega))
    by_cases hxy : y ≤ x
    · have HV := Lib.hid (HG.out hst hxy)
      have hge : decide (0 ≤ cmpN x y) = true := by
        simp
        unfold cmpN
        rw [if_neg (by omega)]
        split <;> omega
      obtain ⟨k, hk⟩ : ∃ k, k = cmpN x y := ⟨_, rfl⟩
      rw [← hk] at hge HC
      clear HS HG HL hst hk
      have HXY := Lib.hid hxy
      clear hxy
      go_wp2_with fail
      refine (HC.out w4 (Up.refl w4)).mono ?_
      rintro e w6 ⟨rfl, hb45⟩
      have U6 := U4.trans hb45
      have a6 := a4.up hb45
      have b6 := b4.up hb45
      have r6 := r4.up hb45
      have X6 := Lib.hid (X4.out.up hb45)
      have Y6 := Lib.hid (Y4.out.up hb45)
      have Z6 := Lib.hid (Z4.out.up hb45)
      clear p0 p1 p2 o0 o1 o2 d0 d1 d2 f0 f1 f2 U4 a4 b4 r4 X4 Y4 Z4 hb45
      obtain ⟨p0, p1, p2⟩ := tri a6
      obtain ⟨o0, o1, o2⟩ := tri b6
      obtain ⟨d0, d1, d2⟩ := tri r6
      have f0 := r6.frozen 0
      have f1 := r6.frozen 1
      have f2 := r6.frozen 2
      have u6 := U6.size
      have HA := Lib.hid (fun wx (h : Up w6 wx) => subtract_any X cx x Y cy y wx (X6.out.up h) (Y6.out.up h) (by omega) HXY.out)
      go_wp2_with fail
      go_region_held3 (fun wx => wx.cell? ⟨w.heap.size, 0, none⟩ = some (.bool s))
        (first | exact p0 | exact q0 | exact (tri (((a5.far (by simp <;> omega) _).far (by simp <;> omega) _).far (by simp <;> omega) _)).1)
        (first
          | (go_at_call 41; refine (HA.out _ (by exact (Up.refl w6).drew)).mono ?_; rintro e w5 ⟨S, cs, rfl, t1, t2, t3, hb5⟩; have hb5' : Up w6 w5 := Up.trans (Up.refl w6).drew hb5; have a5 := a6.up hb5'; have r5 := r6.up hb5'; obtain ⟨q0, _q1, _q2⟩ := tri a5; obtain ⟨g0, g1, g2⟩ := tri r5; have i0 := r5.frozen 0; have i1 := r5.frozen 1; have i2 := r5.frozen 2))
      go_wp2_with fail
      have HQ : FQ w5 (.agg #[.bool s, .slice S (ln (x - y)) cs, .slice Z (ln z) cz]) (q + r) (B + C + 1) :=
        ⟨_, _, _, ⟨_, _, _, _, rfl, t3, Z6.out.up hb5', t1, t2, ZC.out.1, ZC.out.2⟩, HZ0.out, Nat.le_trans (ln_mono (Nat.sub_le x y)) (by omega), by omega, HV.out⟩
      obtain ⟨c0, c1, c2'⟩ := tri (tri_set r5 (.bool s) (.slice S (ln (x - y)) cs) (.slice Z (ln z) cz))
      refine bodyPost_ret (v := .agg #[.bool s, .slice S (ln (x - y)) cs, .slice Z (ln z) cz]) ?_ rfl (ret_fq r5 HQ (U6.trans hb5') (by omega))
      simp [results, Tryd.results24, go_sem, c0, c1, c2']
    · have hyx : x ≤ y := by omega
      have HV := Lib.hid (HL.out hst hyx)
      have hge : decide (0 ≤ cmpN x y) = false := by
        simp
        unfold cmpN
        rw [if_pos (by omega)]
        omega
      obtain ⟨k, hk⟩ : ∃ k, k = cmpN x y := ⟨_, rfl⟩
      rw [← hk] at hge HC
      clear HS HG HL hst hk
      have HXY := Lib.hid hyx
      clear hxy hyx
      go_wp2_with fail
      refine (HC.out w4 (Up.refl w4)).mono ?_
      rintro e w6 ⟨rfl, hb45⟩
      have U6 := U4.trans hb45
      have a6 := a4.up hb45
      have b6 := b4.up hb45
      have r6 := r4.up hb45
      have X6 := Lib.hid (X4.out.up hb45)
      have Y6 := Lib.hid (Y4.out.up hb45)
      have Z6 := Lib.hid (Z4.out.up hb45)
      clear p0 p1 p2 o0 o1 o2 d0 d1 d2 f0 f1 f2 U4 a4 b4 r4 X4 Y4 Z4 hb45
      obtain ⟨p0, p1, p2⟩ := tri a6
      obtain ⟨o0, o1, o2⟩ := tri b6
      obtain ⟨d0, d1, d2⟩ := tri r6
      have f0 := r6.frozen 0
      have f1 := r6.frozen 1
      have f2 := r6.frozen 2
      have u6 := U6.size
      have HA := Lib.hid (fun wx (h : Up w6 wx) => subtract_any Y cy y X cx x wx (Y6.out.up h) (X6.out.up h) (by omega) HXY.out)
      go_wp2_with fail
      go_region_held3 (fun wx => wx.cell? ⟨w.heap.size + 1, 0, none⟩ = some (.bool t))
        (first | exact o0 | exact q0 | exact (tri (((a5.far (by simp <;> omega) _).far (by simp <;> omega) _).far (by simp <;> omega) _)).1)
        (first
          | (go_at_call 41; refine (HA.out _ (by exact (Up.refl w6).drew)).mono ?_; rintro e w5 ⟨S, cs, rfl, t1, t2, t3, hb5⟩; have hb5' : Up w6 w5 := Up.trans (Up.refl w6).drew hb5; have a5 := b6.up hb5'; have r5 := r6.up hb5'; obtain ⟨q0, _q1, _q2⟩ := tri a5; obtain ⟨g0, g1, g2⟩ := tri r5; have i0 := r5.frozen 0; have i1 := r5.frozen 1; have i2 := r5.frozen 2))
      go_wp2_with fail
      have HQ : FQ w5 (.agg #[.bool t, .slice S (ln (y - x)) cs, .slice Z (ln z) cz]) (q + r) (B + C + 1) :=
        ⟨_, _, _, ⟨_, _, _, _, rfl, t3, Z6.out.up hb5', t1, t2, ZC.out.1, ZC.out.2⟩, HZ0.out, Nat.le_trans (ln_mono (Nat.sub_le y x)) (by omega), by omega, HV.out⟩
      obtain ⟨c0, c1, c2'⟩ := tri (tri_set r5 (.bool t) (.slice S (ln (y - x)) cs) (.slice Z (ln z) cz))
      refine bodyPost_ret (v := .agg #[.bool t, .slice S (ln (y - x)) cs, .slice Z (ln z) cz]) ?_ rfl (ret_fq r5 HQ (U6.trans hb5') (by omega))
      simp [results, Tryd.results24, go_sem, c0, c1, c2']
end Go.Proofs.YtefiapjfiojaoaaDoor

/-
  Rational numbers as values: Canonical, Integral, Neg, Abs, Add, Sub.
-/
namespace Go.Proofs.YtefiapjfiojaoaaDoor
open Go.RowKit

theorem field2 (s : Bool) (A A' : Option Addr) (n c n' c' : Nat) : ∀ w, (Instr.field 40 (.agg #[.bool s, .slice A n c, .slice A' n' c']) 2).run Tryd.prog w = .ok (.slice A' n' c') w := fun _ => by kernel_rfl
theorem isOne_q {w : World} {s : Bool} {A A' : Option Addr} {c c' n n' : Nat} {q : Rat} (h : QV w (.agg #[.bool s, .slice A n c, .slice A' n' c']) q) (hl : qs q ≤ 17592186044416) :
    Calls Tryd.prog 29 #[.slice A' n' c'] w fun e w' => e = .returned (.bool (q.den == 1)) ∧ w = w' := by
  obtain ⟨D, ca, D', cb, e, h1, h2, _⟩ := h
  injection e with e
  simp at e
  obtain ⟨rfl, ⟨rfl, rfl, rfl⟩, rfl, rfl, rfl⟩ := e
  exact isOne_any A' c' q.den w h2 (Nat.le_trans (qs_den q) hl)

theorem FQ.flip {w : World} {s : Bool} {a b : Value} {q : Rat} {B : Nat} (h : FQ w (.agg #[.bool s, a, b]) q B) : FQ w (.agg #[.bool (!s), a, b]) (-q) B := by
  obtain ⟨s', n, d, ⟨A, ca, A', cb, e, h1⟩, h2, h3, h4, rfl⟩ := h
  injection e with e
  simp at e
  obtain ⟨rfl, rfl, rfl⟩ := e
  exact ⟨!s, n, d, ⟨A, ca, A', cb, rfl, h1⟩, h2, h3, h4, by rw [fq_neg]⟩
theorem FQ.plain {w : World} {s : Bool} {a b : Value} {q : Rat} {B : Nat} (h : FQ w (.agg #[.bool s, a, b]) q B) : FQ w (.agg #[.bool false, a, b]) q.abs B := by
  obtain ⟨s', n, d, ⟨A, ca, A', cb, e, h1⟩, h2, h3, h4, rfl⟩ := h
  injection e with e
  simp at e
  obtain ⟨rfl, rfl, rfl⟩ := e
  exact ⟨false, n, d, ⟨A, ca, A', cb, rfl, h1⟩, h2, h3, h4, by rw [fq_abs s]⟩

set_option maxRecDepth 100000 in
set_option maxHeartbeats 1600000 in
theorem canonical_q {v : Value} {q : Rat} {B : Nat} {w : World} (h : IV w v q B) (hB : B ≤ 8589934590) : Calls Tryd.prog 8 #[v] w (RetQ w (q)) := by
  have H := Lib.hid (fun wx (u : Up w wx) => load_q (h.up u) (by omega))
  obtain ⟨s, A, n, c, A', n', c', rfl⟩ := h.shape
  clear h
  go_enter Tryd.func8, Tryd.ntmps8
  go_wp2_with fail
  obtain ⟨w1, hw1⟩ : ∃ w1, w1 = (w.alloc (Obj.cells #[.bool s, .slice A n c, .slice A' n' c'] 24)).alloc (Obj.cells #[.bool false, .slice none 0 0, .slice none 0 0] 24) := ⟨_, rfl⟩
  have U1 : Up w w1 := by rw [hw1]; exact ((Below.refl _ _).alloc (Nat.le_refl _) _).alloc (by simp) _
  have r1 : Blk w1 (w.heap.size + 1) 24 #[.bool false, .slice none 0 0, .slice none 0 0] := by rw [hw1]; exact Blk.new' _ _ _ (by simp)
  rw [← hw1]
  clear hw1
  refine (H.out w1 U1).mono ?_
  rintro e w2 ⟨v2, rfl, hF, hU2⟩
  obtain ⟨s2, A2, n2, c2, A2', n2', c2', rfl⟩ := hF.shape
  have HF := Lib.hid hF
  have U2 := U1.trans hU2
  have r2 := r1.up hU2
  have z2 := r2.lt
  clear hF hU2 r1 U1
  go_wp2_with fail
  refine (store_q HF.out (by omega)).mono ?_
  rintro e w3 ⟨v3, rfl, hQ, hU3⟩
  obtain ⟨s3, A3, n3, c3, A3', n3', c3', rfl⟩ := hQ.shape
  have HQ := Lib.hid hQ
  have U3 := U2.trans hU3
  have r3 := r2.up hU3
  obtain ⟨d0, d1, d2⟩ := tri r3
  have f0 := r3.frozen 0
  have f1 := r3.frozen 1
  have f2 := r3.frozen 2
  have z3 := r3.lt
  clear hQ
  go_wp2_with fail
  obtain ⟨c0, c1, c2'⟩ := tri (tri_set r3 (.bool s3) (.slice A3 n3 c3) (.slice A3' n3' c3'))
  refine bodyPost_ret (v := .agg #[.bool s3, .slice A3 n3 c3, .slice A3' n3' c3']) ?_ rfl (ret_q r3 HQ.out U3 (by omega))
  simp [results, Tryd.results8, go_sem, c0, c1, c2']

end Go.Proofs.YtefiapjfiojaoaaDoor
