/-
  PD: FrameKit, RInteg, RNegAbs, RAdd, RSub, RMul, RDiv, RCmp, RRound, RSame, RFrame, RMore.
-/
import Derived.Test.YtefiapjfiojaoaaDoorRows
import Derived.Test.YtefiapjfiojaoaaDoorPA
import Derived.ProofKit
import Derived.OpenShut
import Derived.ShutString
import Derived.ChangeOld
import Derived.Lib.SmallJoins
import Derived.Test.YtefiapjfiojaoaaDoorPC
/-
  Arguments opened: slices of integers; small facts that every frame uses.
-/
namespace Go.Proofs.YtefiapjfiojaoaaDoor
open Go.ChangeShapes Go.WideShapes Go.ChangeAt Go.RowKit Go.Joins

theorem own : ownKnob Tryd.prog.godebug = none := by kernel_rfl
theorem laidOut : laidOutB Tryd.prog = true := by kernel_rfl

theorem lt_of_cell {w : World} {p : Addr} {v : Value} (h : w.cell? p = some v) : p.block < w.heap.size := by
  rcases Nat.lt_or_ge p.block w.heap.size with hlt | hge
  · exact hlt
  · have hn := Array.getElem?_eq_none hge
    cases p with
    | mk b o s => cases s <;> simp [World.cell?, hn] at h

section
variable {H : Type} {enc : TypeId × Value → H} {P : Program} {w : World} {base : Nat} {spare : Nat → Bool} {held : Bool}
/-- A slice of integers that came in. -/
theorem ints_in {t e : TypeId} {k : IntKind} {fuel : Nat} {c : Value} {x : DataW H × List MemPlace} (ht : P.underlying t = some (.slice e)) (he : P.underlying e = some (.int k)) (hc : P.cellsOf e = 1)
    (h : DataW.trod enc P w base spare held fuel t [c] = some x) :
    ∃ (A : Option Addr) (cap : Nat) (zs : List Int), c = .slice A zs.length cap ∧ SI w w.heap.size k A zs ∧ zs.length ≤ cap ∧ cap ≤ 9223372036854775807 ∧ ∀ n ∈ zs, (Lit.int k n).wf = true := by
  rcases open_ints ht he hc h with ⟨hcs, _⟩ | ⟨a, len, cap, zs, hcs, _, hl, hm, hz, _, hcell, hwz⟩
  · injection hcs with hcs _
    subst hcs
    exact ⟨none, 0, [], rfl, SI.nil_, Nat.zero_le _, by simp, by simp⟩
  · injection hcs with hcs _
    subst hcs
    have hlz : len ≤ zs.length := by rw [hz]; split <;> omega
    have hlt : (zs.take len).length = len := by rw [List.length_take]; omega
    refine ⟨some a, cap, zs.take len, by rw [hlt], fun h0 => ⟨a, rfl, ?_, fun j hj => ?_⟩, by omega, by simpa [maxLen] using hm, fun n hn => hwz n (List.mem_of_mem_take hn)⟩
    · have := lt_of_cell (hcell 0 (by omega))
      rwa [block_of_add] at this
    · rw [hlt] at hj
      rw [hcell j (by omega), List.getElem_take]
      simp [show j < zs.length from by omega]

/-- A parameter that is a slice of integers. -/
theorem ints_arg {t e : TypeId} {k : IntKind} {v : Value} {d : DataW H} {p : List MemPlace} (ht : P.underlying t = some (.slice e)) (he : P.underlying e = some (.int k)) (hc : P.cellsOf e = 1)
    (hv : Value.okWide P w .any base t v) (h : DataW.Trod enc P w 0 spare held t v d p) :
    ∃ (A : Option Addr) (cap : Nat) (zs : List Int), v = .slice A zs.length cap ∧ SI w w.heap.size k A zs ∧ zs.length ≤ cap ∧ cap ≤ 9223372036854775807 ∧ ∀ n ∈ zs, (Lit.int k n).wf = true := by
  obtain ⟨a0, len, cap, rfl⟩ := okWide_slice ht hv
  obtain ⟨fuel, hf⟩ := h
  exact ints_in ht he hc (by simpa [Value.cells] using hf)
end
end Go.Proofs.YtefiapjfiojaoaaDoor

/-
  Rational numbers as values: Integral.
-/
namespace Go.Proofs.YtefiapjfiojaoaaDoor
open Go.RowKit

end Go.Proofs.YtefiapjfiojaoaaDoor

/-
  Rational numbers as values: Neg, Abs.
-/
namespace Go.Proofs.YtefiapjfiojaoaaDoor
open Go.RowKit

end Go.Proofs.YtefiapjfiojaoaaDoor

/-
  Rational numbers as values: Add.
-/
namespace Go.Proofs.YtefiapjfiojaoaaDoor
open Go.RowKit

set_option maxRecDepth 100000 in
set_option maxHeartbeats 6400000 in
theorem add_q {v v' : Value} {q r : Rat} {B C : Nat} {w : World} (hf : IV w v q B) (hg : IV w v' r C) (hB : B + C ≤ 17179869180) :
    Calls Tryd.prog 12 #[v, v'] w (RetQ w (q + r)) := by
  have H1 := Lib.hid (fun wx (u : Up w wx) => load_q (hf.up u) (by omega))
  have H2 := Lib.hid (fun wx (u : Up w wx) => load_q (hg.up u) (by omega))
  obtain ⟨s, A, n, c, A', n', c', rfl⟩ := hf.shape
  obtain ⟨t, E, m, d, E', m', d', rfl⟩ := hg.shape
  clear hf hg
  go_enter Tryd.func12, Tryd.ntmps12
  go_wp2_with fail
  obtain ⟨w1, hw1⟩ : ∃ w1, w1 = ((w.alloc (Obj.cells #[.bool s, .slice A n c, .slice A' n' c'] 24)).alloc (Obj.cells #[.bool t, .slice E m d, .slice E' m' d'] 24)).alloc (Obj.cells #[.bool false, .slice none 0 0, .slice none 0 0] 24) := ⟨_, rfl⟩
  have U1 : Up w w1 := by rw [hw1]; exact (((Below.refl _ _).alloc (Nat.le_refl _) _).alloc (by simp) _).alloc (by simp; omega) _
  have a1 : Blk w1 w.heap.size 24 #[.bool s, .slice A n c, .slice A' n' c'] := by rw [hw1]; exact ((Blk.new w _ _).alloc _).alloc _
  have b1 : Blk w1 (w.heap.size + 1) 24 #[.bool t, .slice E m d, .slice E' m' d'] := by rw [hw1]; exact (Blk.new' _ _ _ (by simp)).alloc _
  have r1 : Blk w1 (w.heap.size + 2) 24 #[.bool false, .slice none 0 0, .slice none 0 0] := by rw [hw1]; exact Blk.new' _ _ _ (by simp)
  rw [← hw1]
  clear hw1
  have s0 := And.intro (tri a1) (tri b1)
  go_region_held3 (fun wx => (wx.cell? ⟨w.heap.size, 0, none⟩ = some (.bool s) ∧ wx.cell? ⟨w.heap.size, 1, none⟩ = some (.slice A n c) ∧ wx.cell? ⟨w.heap.size, 2, none⟩ = some (.slice A' n' c')) ∧
      (wx.cell? ⟨w.heap.size + 1, 0, none⟩ = some (.bool t) ∧ wx.cell? ⟨w.heap.size + 1, 1, none⟩ = some (.slice E m d) ∧ wx.cell? ⟨w.heap.size + 1, 2, none⟩ = some (.slice E' m' d')))
    (first | exact s0 | exact s2 | exact s3 | exact s4 | exact s5 | exact ⟨tri (((a5.far (by simp <;> omega) _).far (by simp <;> omega) _).far (by simp <;> omega) _), tri (((b5.far (by simp <;> omega) _).far (by simp <;> omega) _).far (by simp <;> omega) _)⟩)
    (first
      | (go_at_call_of 19 (Value.agg #[.bool s, .slice A n c, .slice A' n' c']); refine (H1.out _ (by exact U1.drew)).mono ?_; rintro e w2 ⟨v2, rfl, hF, hU2⟩; obtain ⟨s2', A2, n2, c2, A2', n2', c2', rfl⟩ := hF.shape; have HF := Lib.hid hF; clear hF; have U2 := Up.trans U1.drew hU2; have a2 := Blk.up (w := w1.drew) a1 hU2; have b2 := Blk.up (w := w1.drew) b1 hU2; have r2 := Blk.up (w := w1.drew) r1 hU2; have s2 := And.intro (tri a2) (tri b2))
      | (go_at_call_of 19 (Value.agg #[.bool t, .slice E m d, .slice E' m' d']); refine (H2.out _ (by exact U2)).mono ?_; rintro e w3 ⟨v3, rfl, hG, hU3⟩; obtain ⟨s3', A3, n3, c3, A3', n3', c3', rfl⟩ := hG.shape; have HG := Lib.hid hG; clear hG; have HF3 := Lib.hid (HF.out.up hU3); have U3 := Up.trans U2 hU3; have a3 := Blk.up a2 hU3; have b3 := Blk.up b2 hU3; have r3 := Blk.up r2 hU3; have s3 := And.intro (tri a3) (tri b3))
      | (go_at_call 24; refine (plus_q HF3.out HG.out (by omega)).mono ?_; rintro e w4 ⟨v4, rfl, hP, hU4⟩; obtain ⟨s4', A4, n4, c4, A4', n4', c4', rfl⟩ := hP.shape; have HP := Lib.hid hP; clear hP; have U4 := Up.trans U3 hU4; have a4 := Blk.up a3 hU4; have b4 := Blk.up b3 hU4; have r4 := Blk.up r3 hU4; have s4 := And.intro (tri a4) (tri b4))
      | (go_at_call 20; refine (store_q HP.out (by omega)).mono ?_; rintro e w5 ⟨v5, rfl, hQ, hU5⟩; obtain ⟨s5', A5, n5, c5, A5', n5', c5', rfl⟩ := hQ.shape; have HQ := Lib.hid hQ; clear hQ; have U5 := Up.trans U4 hU5; have a5 := Blk.up a4 hU5; have b5 := Blk.up b4 hU5; have r5 := Blk.up r4 hU5; have s5 := And.intro (tri a5) (tri b5); obtain ⟨g0, g1, g2⟩ := tri r5; have i0 := r5.frozen 0; have i1 := r5.frozen 1; have i2 := r5.frozen 2; have z5 := r5.lt))
  go_wp2_with fail
  obtain ⟨c0, c1, c2'⟩ := tri (tri_set r5 (.bool s5') (.slice A5 n5 c5) (.slice A5' n5' c5'))
  refine bodyPost_ret (v := .agg #[.bool s5', .slice A5 n5 c5, .slice A5' n5' c5']) ?_ rfl (ret_q r5 HQ.out U5 (by omega))
  simp [results, Tryd.results12, go_sem, c0, c1, c2']
end Go.Proofs.YtefiapjfiojaoaaDoor

/-
  Rational numbers as values: Sub.
-/
namespace Go.Proofs.YtefiapjfiojaoaaDoor
open Go.RowKit

end Go.Proofs.YtefiapjfiojaoaaDoor

/-
  Rational numbers as values: Mul.
-/
namespace Go.Proofs.YtefiapjfiojaoaaDoor
open Go.RowKit

theorem far_ne {A B : Nat} (h : ∀ b, b < A → b < B) : (∀ b, b < A → b ≠ B) ∧ (∀ b, b < A → B ≠ b) ∧ (∀ b, b < A → b ≠ B + 1) ∧ (∀ b, b < A → B + 1 ≠ b) :=
  ⟨fun b k => by have := h b k; omega, fun b k => by have := h b k; omega, fun b k => by have := h b k; omega, fun b k => by have := h b k; omega⟩
theorem comp_lt {A B C : Nat} (h : ∀ b, b < A → b < B) (k : ∀ b, b < B → b < C) : ∀ b, b < A → b < C := fun b hb => k b (h b hb)
theorem Blk.far' {w : World} {g : Nat} {t : TypeId} {cs : Array Value} {p : Addr} (hp : g ≠ p.block) (u : Value) (h : Blk w g t cs) : Blk (w.setCell p u) g t cs := h.far hp u
theorem tri0 {w : World} {g : Nat} {t : TypeId} {x y z : Value} (h : Blk w g t #[.bool false, .slice none 0 0, .slice none 0 0]) : Blk (((w.setCell ⟨g, 0, none⟩ x).setCell ⟨g, 1, none⟩ y).setCell ⟨g, 2, none⟩ z) g t #[x, y, z] := tri_set h x y z
theorem Kp.tri0 {a b : World} {g : Nat} {s' : Bool} {C C' : Option Addr} {m m' d d' : Nat} (r : Blk b g 40 #[.bool false, .slice none 0 0, .slice none 0 0]) (h : Kp a b) :
    Kp a (((b.setCell ⟨g, 0, none⟩ (.bool s')).setCell ⟨g, 1, none⟩ (.slice C m d)).setCell ⟨g, 2, none⟩ (.slice C' m' d')) := h.tri r
/-- A box with a fraction in it. -/
def BoxFQ (w : World) (g : Nat) (q : Rat) (B : Nat) : Prop :=
  ∃ s A n c A' n' c', Blk w g 40 #[.bool s, .slice A n c, .slice A' n' c'] ∧ FQ w (.agg #[.bool s, .slice A n c, .slice A' n' c']) q B
theorem FQ.opened {w : World} {s : Bool} {A A' : Option Addr} {n c n' c' : Nat} {q : Rat} {B : Nat} (h : FQ w (.agg #[.bool s, .slice A n c, .slice A' n' c']) q B) :
    ∃ N D : Nat, n = ln N ∧ n' = ln D ∧ NS w A N ∧ NS w A' D ∧ D ≠ 0 ∧ ln N ≤ B ∧ ln D ≤ B ∧ q = fq s N D ∧ ln N ≤ c ∧ c ≤ 9223372036854775807 ∧ ln D ≤ c' ∧ c' ≤ 9223372036854775807 := by
  obtain ⟨s', N, D, ⟨C, ca, C', cb, e, h1, h2, h3, h4, h5, h6⟩, k1, k2, k3, k4⟩ := h
  injection e with e
  simp at e
  obtain ⟨rfl, ⟨rfl, rfl, rfl⟩, rfl, rfl, rfl⟩ := e
  exact ⟨N, D, rfl, rfl, h1, h2, k1, k2, k3, k4, h3, h4, h5, h6⟩
/-- Two boxes with what load gives, and the rest as it was. -/
def TwoBox (w : World) (h : Nat) (q r : Rat) (B C : Nat) (s5 s6 : Value) (wx : World) : Prop :=
  ∃ g1 g2 : Nat, s5 = .pointer (some ⟨g1, 0, none⟩) ∧ s6 = .pointer (some ⟨g2, 0, none⟩) ∧ BoxFQ wx g1 q B ∧ BoxFQ wx g2 r C ∧ Up w wx ∧ Blk wx h 24 #[.bool false, .slice none 0 0, .slice none 0 0]

set_option maxRecDepth 100000 in
set_option maxHeartbeats 3200000 in
theorem mul_q {v v' : Value} {q r : Rat} {B C : Nat} {w : World} (hf : IV w v q B) (hg : IV w v' r C) (hB : B + C ≤ 17179869180) :
    Calls Tryd.prog 9 #[v, v'] w (RetQ w (q * r)) := by
  have H1 := Lib.hid (fun wx (u : Up w wx) => load_q (hf.up u) (by omega))
  have H2 := Lib.hid (fun wx (u : Up w wx) => load_q (hg.up u) (by omega))
  obtain ⟨s, A, n, c, A', n', c', rfl⟩ := hf.shape
  obtain ⟨t, E, m, d, E', m', d', rfl⟩ := hg.shape
  clear hf hg
  go_enter Tryd.func9, Tryd.ntmps9
  go_upto_region 1 with fail
  obtain ⟨w1, hw1⟩ : ∃ w1, w1 = ((w.alloc (Obj.cells #[.bool s, .slice A n c, .slice A' n' c'] 24)).alloc (Obj.cells #[.bool t, .slice E m d, .slice E' m' d'] 24)).alloc (Obj.cells #[.bool false, .slice none 0 0, .slice none 0 0] 24) := ⟨_, rfl⟩
  have U1 : Up w w1 := by rw [hw1]; exact (((Below.refl _ _).alloc (Nat.le_refl _) _).alloc (by simp) _).alloc (by simp; omega) _
  have a1 : Blk w1 w.heap.size 24 #[.bool s, .slice A n c, .slice A' n' c'] := by rw [hw1]; exact ((Blk.new w _ _).alloc _).alloc _
  have b1 : Blk w1 (w.heap.size + 1) 24 #[.bool t, .slice E m d, .slice E' m' d'] := by rw [hw1]; exact (Blk.new' _ _ _ (by simp)).alloc _
  have r1 : Blk w1 (w.heap.size + 2) 24 #[.bool false, .slice none 0 0, .slice none 0 0] := by rw [hw1]; exact Blk.new' _ _ _ (by simp)
  rw [← hw1]
  clear hw1
  have z1 := r1.lt
  go_cut [5, 6] (fun s5 s6 wx => TwoBox w (w.heap.size + 2) q r (B + 1) (C + 1) s5 s6 wx)
  case first =>
    go_region_held3 (fun wx => (wx.cell? ⟨w.heap.size, 0, none⟩ = some (.bool s) ∧ wx.cell? ⟨w.heap.size, 1, none⟩ = some (.slice A n c) ∧ wx.cell? ⟨w.heap.size, 2, none⟩ = some (.slice A' n' c')) ∧
        (wx.cell? ⟨w.heap.size + 1, 0, none⟩ = some (.bool t) ∧ wx.cell? ⟨w.heap.size + 1, 1, none⟩ = some (.slice E m d) ∧ wx.cell? ⟨w.heap.size + 1, 2, none⟩ = some (.slice E' m' d')))
      (refine ⟨tri (t := 24) ?_, tri (t := 24) ?_⟩ <;> (repeat' (with_reducible first | exact a1 | exact b1 | apply Blk.drew | apply Blk.alloc | (refine Blk.far' ?_ _ ?_; ((try simp) <;> omega)) | (refine Blk.up ?_ UB) | (refine Blk.up ?_ UA))))
      (first
        | (go_at_call_of 19 (Value.agg #[.bool s, .slice A n c, .slice A' n' c']); refine (H1.out _ (by (repeat' (with_reducible first | exact U1 | apply Below.drew | apply Below.alloc | apply Below.setCell)) <;> (try simp) <;> omega)).mono ?_; rintro e w2 ⟨v2, rfl, hF, UA⟩; obtain ⟨s2', A2, n2, c2, A2', n2', c2', rfl⟩ := hF.shape; have HF := Lib.hid hF; clear hF; have zA := UA.size; (try simp at zA); obtain ⟨hc, hf, hzn, hy, hx, hn⟩ := bcell UA; (try (have hzz := comp_lt hz0 hzn; obtain ⟨na, nb, nc, nd⟩ := far_ne hzz)); obtain ⟨ma, mb, mc, md⟩ := far_ne hzn; have hz0 := hzn)
        | (go_at_call_of 19 (Value.agg #[.bool t, .slice E m d, .slice E' m' d']); refine (H2.out _ (by (repeat' (with_reducible first | exact U1 | apply Below.drew | apply Below.alloc | apply Below.setCell | (refine Up.trans ?_ UA))) <;> (try simp) <;> omega)).mono ?_; rintro e w3 ⟨v3, rfl, hG, UB⟩; obtain ⟨s3', A3, n3, c3, A3', n3', c3', rfl⟩ := hG.shape; have HG := Lib.hid hG; clear hG; have zB := UB.size; (try simp at zB); obtain ⟨hc, hf, hzn, hy, hx, hn⟩ := bcell UB; (try (have hzz := comp_lt hz0 hzn; obtain ⟨na, nb, nc, nd⟩ := far_ne hzz)); obtain ⟨ma, mb, mc, md⟩ := far_ne hzn; have hz0 := hzn))
    all_goals
      go_wp2_with fail
      go_meet
      refine ⟨_, _, rfl, rfl, ⟨s2', A2, n2, c2, A2', n2', c2', ?_, HF.out.kp ?_⟩, ⟨s3', A3, n3, c3, A3', n3', c3', ?_, HG.out.kp ?_⟩, ?_, ?_⟩
      all_goals
        (repeat' (with_reducible first | exact r1 | (refine Blk.new' _ _ _ ?_; first | rfl | (simp; done)) | apply Blk.drew | apply Blk.alloc | (refine Blk.far' ?_ _ ?_; ((try simp) <;> omega)) | apply tri0 | (refine Blk.up ?_ UB) | (refine Blk.up ?_ UA) | exact Kp.refl _ | apply Kp.drew | apply Kp.alloc | apply Kp.tri0 | (refine Kp.trans ?_ (Kp.of UB)) | exact U1 | apply Below.drew | apply Below.alloc | apply Below.setCell | (refine Up.trans ?_ UB) | (refine Up.trans ?_ UA)))
      all_goals ((try simp) <;> omega)
  case rest =>
    obtain ⟨g1, g2, rfl, rfl, ⟨s2, A2, n2, c2, A2', n2', c2', a3, F⟩, ⟨s3, A3, n3, c3, A3', n3', c3', b3, G⟩, U3, r3⟩ := hcut
    obtain ⟨N, D, rfl, rfl, p1, p2, p3, p4, p5, p6, _⟩ := F.opened
    obtain ⟨M, K, rfl, rfl, q1, q2, q3, q4, q5, q6, _⟩ := G.opened
    have HQ : Hid (q * r = fq (!(s2 == s3)) (N * M) (D * K)) := by rw [p6, q6]; exact fq_mul _ _ _ _ _ _
    have hx : ln (N * M) ≤ B + C + 2 := Nat.le_trans (ln_mul N M) (by omega)
    have hy : ln (D * K) ≤ B + C + 2 := Nat.le_trans (ln_mul D K) (by omega)
    have H0 := Lib.hid (Nat.mul_ne_zero p3 q3)
    have M1 := Lib.hid (fun wx (h : Up wc wx) => multiply_any A2 c2 N A3 c3 M wx (p1.up h) (q1.up h) (by omega))
    have M2 := Lib.hid (fun wx (h : Up wc wx) => multiply_any A2' c2' D A3' c3' K wx (p2.up h) (q2.up h) (by omega))
    have z3 := r3.lt
    have n1 : g1 ≠ w.heap.size + 2 := a3.ne_ r3 (by decide)
    have n2 : g2 ≠ w.heap.size + 2 := b3.ne_ r3 (by decide)
    have ze := U3.size
    obtain ⟨x, hxe⟩ : ∃ x, x = N * M := ⟨_, rfl⟩
    obtain ⟨y, hye⟩ : ∃ x, x = D * K := ⟨_, rfl⟩
    rw [← hxe, ← hye] at HQ
    rw [← hxe] at M1 hx
    rw [← hye] at M2 hy H0
    clear F G p1 p2 p3 p4 p5 p6 q1 q2 q3 q4 q5 q6 hxe hye H1 H2 a1 b1 r1 U1 z1
    have s0 := And.intro (tri a3) (tri b3)
    go_wp2_with fail
    go_region_held3 (fun wx => (wx.cell? ⟨g1, 0, none⟩ = some (.bool s2) ∧ wx.cell? ⟨g1, 1, none⟩ = some (.slice A2 (ln N) c2) ∧ wx.cell? ⟨g1, 2, none⟩ = some (.slice A2' (ln D) c2')) ∧
        (wx.cell? ⟨g2, 0, none⟩ = some (.bool s3) ∧ wx.cell? ⟨g2, 1, none⟩ = some (.slice A3 (ln M) c3) ∧ wx.cell? ⟨g2, 2, none⟩ = some (.slice A3' (ln K) c3')))
      (first | exact s0 | exact s1 | exact s2' | exact s3' | exact ⟨tri (((a6.far (by simp <;> omega) _).far (by simp <;> omega) _).far (by simp <;> omega) _), tri (((b6.far (by simp <;> omega) _).far (by simp <;> omega) _).far (by simp <;> omega) _)⟩)
      (first
        | (go_at_call_of 21 (Value.slice A2 (ln N) c2); refine (M1.out _ (by exact (Up.refl wc).drew)).mono ?_; rintro e w4 ⟨X, cx, rfl, x1, x2, x3, hb4⟩; have U4 : Up wc w4 := Up.trans (Up.refl wc).drew hb4; have a4 := a3.up U4; have b4 := b3.up U4; have r4 := r3.up U4; have s1 := And.intro (tri a4) (tri b4))
        | (go_at_call_of 21 (Value.slice A2' (ln D) c2'); refine (M2.out _ (by exact U4)).mono ?_; rintro e w5 ⟨Y, cy, rfl, y1, y2, y3, hb5⟩; have U5 := Up.trans U4 hb5; have a5 := Blk.up a4 hb5; have b5 := Blk.up b4 hb5; have r5 := Blk.up r4 hb5; have s2' := And.intro (tri a5) (tri b5); have HP : Hid (FQ w5 (.agg #[.bool (!(s2 == s3)), .slice X (ln x) cx, .slice Y (ln y) cy]) (q * r) (B + C + 2)) := Lib.hid ⟨_, _, _, ⟨_, _, _, _, rfl, NS.up x3 hb5, y3, x1, x2, y1, y2⟩, H0.out, hx, hy, HQ.out⟩)
        | (go_at_call 20; refine (store_q HP.out (by omega)).mono ?_; rintro e w6 ⟨v5, rfl, hQ, hU5⟩; obtain ⟨s5', B5, n5, d5, B5', n5', d5', rfl⟩ := hQ.shape; have HR := Lib.hid hQ; clear hQ; have U6 := Up.trans U5 hU5; have a6 := Blk.up a5 hU5; have b6 := Blk.up b5 hU5; have r6 := Blk.up r5 hU5; have s3' := And.intro (tri a6) (tri b6); obtain ⟨g0, g1', g2'⟩ := tri r6; have i0 := r6.frozen 0; have i1 := r6.frozen 1; have i2 := r6.frozen 2; have z6 := r6.lt))
    go_wp2_with fail
    obtain ⟨c0, c1, c2'⟩ := tri (tri_set r6 (.bool s5') (.slice B5 n5 d5) (.slice B5' n5' d5'))
    refine bodyPost_ret (v := .agg #[.bool s5', .slice B5 n5 d5, .slice B5' n5' d5']) ?_ rfl (ret_q r6 HR.out (U3.trans U6) (by omega))
    simp [results, Tryd.results9, go_sem, c0, c1, c2']
end Go.Proofs.YtefiapjfiojaoaaDoor

/-
  Rational numbers as values: Div.
-/
namespace Go.Proofs.YtefiapjfiojaoaaDoor
open Go.RowKit

def RetQB (w0 : World) (q : Rat) (b : Bool) (e : Ending) (w' : World) : Prop := ∃ v, e = .returned (.tuple #[v, .bool b]) ∧ QV w' v q ∧ Up w0 w'
theorem fq_eq_zero {s : Bool} {n d : Nat} (hd : d ≠ 0) : fq s n d = 0 ↔ n = 0 := by
  constructor
  · intro h
    have h1 := fq_num (s := s) (n := n) hd
    rw [h] at h1
    by_cases hn : n = 0
    · exact hn
    · have h0 : 0 < Nat.gcd n d := Nat.gcd_pos_of_pos_right n (Nat.pos_of_ne_zero hd)
      have h2 : 0 < n / Nat.gcd n d := Nat.div_pos (Nat.le_of_dvd (Nat.pos_of_ne_zero hn) (Nat.gcd_dvd_left n d)) h0
      simp at h1
      omega
  · rintro rfl; exact fq_zero _ _
theorem ret_qb {w w4 : World} {g : Nat} {t : TypeId} {b b' : Bool} {C C' : Option Addr} {l l' k k' : Nat} {q : Rat} {x y z : Value} (r : Blk w4 g t #[.bool b, .slice C l k, .slice C' l' k']) {v : Value} (hq : QV w4 v q) (hU : Up w w4) (hg : w.heap.size ≤ g) :
    RetQB w q b' (.returned (.tuple #[v, .bool b'])) (((w4.setCell ⟨g, 0, none⟩ x).setCell ⟨g, 1, none⟩ y).setCell ⟨g, 2, none⟩ z) :=
  ⟨_, rfl, FV.far hq r noint3 (only_tri _ _ _), up_tri hU hg _ _ _⟩

end Go.Proofs.YtefiapjfiojaoaaDoor

/-
  Rational numbers as values: Cmp.
-/
namespace Go.Proofs.YtefiapjfiojaoaaDoor
open Go.RowKit

theorem cmp_eq {q r : Rat} {s t : Bool} {N D M K : Nat} (hq : q = fq s N D) (hr : r = fq t M K) (hD : D ≠ 0) (hK : K ≠ 0) (h : sgn q = sgn r) : sgn q * cmpN (N * K) (M * D) = sgn (q - r) := by
  have h1 := sgn_fq s N D hD
  have h2 := sgn_fq t M K hK
  rw [← hq] at h1
  rw [← hr] at h2
  by_cases hN : N = 0
  · rw [if_pos hN] at h1
    rw [h1] at h
    have hM : M = 0 := by
      by_cases hM : M = 0
      · exact hM
      · rw [if_neg hM, ← h] at h2
        split at h2 <;> omega
    rw [hq, hr, hN, hM, fq_zero, fq_zero, show (0 : Rat) - 0 = 0 from by grind, sgn_zero]
    simp
  · rw [if_neg hN] at h1
    have hst : s = t := by
      by_cases hM : M = 0
      · rw [if_pos hM, ← h, h1] at h2
        split at h2 <;> omega
      · rw [if_neg hM, ← h, h1] at h2
        cases s <;> cases t <;> simp at h2 <;> rfl
    subst hst
    rw [h1, hq, hr, cmp_fq s N D M K hD hK]
theorem cmpN_bd (x y : Nat) : -1 ≤ cmpN x y ∧ cmpN x y ≤ 1 := by
  unfold cmpN
  split
  · omega
  · split <;> omega
theorem sgn_bd (q : Rat) : -1 ≤ sgn q ∧ sgn q ≤ 1 := by
  rcases sgn_cases q with ⟨_, e⟩ | ⟨_, e⟩ | ⟨_, e⟩ <;> omega

def TwoBox0 (w : World) (q r : Rat) (B C : Nat) (s5 s6 : Value) (wx : World) : Prop :=
  ∃ g1 g2 : Nat, s5 = .pointer (some ⟨g1, 0, none⟩) ∧ s6 = .pointer (some ⟨g2, 0, none⟩) ∧ BoxFQ wx g1 q B ∧ BoxFQ wx g2 r C ∧ Up w wx
set_option maxRecDepth 100000 in
set_option maxHeartbeats 6400000 in
theorem cmp_q {v v' : Value} {q r : Rat} {B C : Nat} {w : World} (hf : IV w v q B) (hg : IV w v' r C) (hB : B + C ≤ 17179869180) :
    Calls Tryd.prog 13 #[v, v'] w fun e w' => e = .returned (.int .i64 (sgn (q - r))) ∧ Up w w' := by
  have H1 := Lib.hid (fun wx (u : Up w wx) => load_q (hf.up u) (by omega))
  have H2 := Lib.hid (fun wx (u : Up w wx) => load_q (hg.up u) (by omega))
  obtain ⟨s, A, n, c, A', n', c', rfl⟩ := hf.shape
  obtain ⟨t, E, m, d, E', m', d', rfl⟩ := hg.shape
  clear hf hg
  go_enter Tryd.func13, Tryd.ntmps13
  go_upto_region 1 with fail
  obtain ⟨w1, hw1⟩ : ∃ w1, w1 = ((w.alloc (Obj.cells #[.bool s, .slice A n c, .slice A' n' c'] 24)).alloc (Obj.cells #[.bool t, .slice E m d, .slice E' m' d'] 24)) := ⟨_, rfl⟩
  have U1 : Up w w1 := by rw [hw1]; exact ((Below.refl _ _).alloc (Nat.le_refl _) _).alloc (by simp) _
  have a1 : Blk w1 w.heap.size 24 #[.bool s, .slice A n c, .slice A' n' c'] := by rw [hw1]; exact (Blk.new w _ _).alloc _
  have b1 : Blk w1 (w.heap.size + 1) 24 #[.bool t, .slice E m d, .slice E' m' d'] := by rw [hw1]; exact Blk.new' _ _ _ (by simp)
  rw [← hw1]
  clear hw1
  have z1 := b1.lt
  go_cut [5, 6] (fun s5 s6 wx => TwoBox0 w q r (B + 1) (C + 1) s5 s6 wx)
  case first =>
    go_region_held3 (fun wx => (wx.cell? ⟨w.heap.size, 0, none⟩ = some (.bool s) ∧ wx.cell? ⟨w.heap.size, 1, none⟩ = some (.slice A n c) ∧ wx.cell? ⟨w.heap.size, 2, none⟩ = some (.slice A' n' c')) ∧
        (wx.cell? ⟨w.heap.size + 1, 0, none⟩ = some (.bool t) ∧ wx.cell? ⟨w.heap.size + 1, 1, none⟩ = some (.slice E m d) ∧ wx.cell? ⟨w.heap.size + 1, 2, none⟩ = some (.slice E' m' d')))
      (refine ⟨tri (t := 24) ?_, tri (t := 24) ?_⟩ <;> (repeat' (with_reducible first | exact a1 | exact b1 | apply Blk.drew | apply Blk.alloc | (refine Blk.far' ?_ _ ?_; ((try simp) <;> omega)) | (refine Blk.up ?_ UB) | (refine Blk.up ?_ UA))))
      (first
        | (go_at_call_of 19 (Value.agg #[.bool s, .slice A n c, .slice A' n' c']); refine (H1.out _ (by (repeat' (with_reducible first | exact U1 | apply Below.drew | apply Below.alloc | apply Below.setCell)) <;> (try simp) <;> omega)).mono ?_; rintro e w2 ⟨v2, rfl, hF, UA⟩; obtain ⟨s2', A2, n2, c2, A2', n2', c2', rfl⟩ := hF.shape; have HF := Lib.hid hF; clear hF; have zA := UA.size; (try simp at zA); obtain ⟨hc, hf, hzn, hy, hx, hn⟩ := bcell UA; (try (have hzz := comp_lt hz0 hzn; obtain ⟨na, nb, nc, nd⟩ := far_ne hzz)); obtain ⟨ma, mb, mc, md⟩ := far_ne hzn; have hz0 := hzn)
        | (go_at_call_of 19 (Value.agg #[.bool t, .slice E m d, .slice E' m' d']); refine (H2.out _ (by (repeat' (with_reducible first | exact U1 | apply Below.drew | apply Below.alloc | apply Below.setCell | (refine Up.trans ?_ UA))) <;> (try simp) <;> omega)).mono ?_; rintro e w3 ⟨v3, rfl, hG, UB⟩; obtain ⟨s3', A3, n3, c3, A3', n3', c3', rfl⟩ := hG.shape; have HG := Lib.hid hG; clear hG; have zB := UB.size; (try simp at zB); obtain ⟨hc, hf, hzn, hy, hx, hn⟩ := bcell UB; (try (have hzz := comp_lt hz0 hzn; obtain ⟨na, nb, nc, nd⟩ := far_ne hzz)); obtain ⟨ma, mb, mc, md⟩ := far_ne hzn; have hz0 := hzn))
    all_goals
      go_wp2_with fail
      go_meet
      refine ⟨_, _, rfl, rfl, ⟨s2', A2, n2, c2, A2', n2', c2', ?_, HF.out.kp ?_⟩, ⟨s3', A3, n3, c3, A3', n3', c3', ?_, HG.out.kp ?_⟩, ?_⟩
      all_goals
        (repeat' (with_reducible first | exact a1 | (refine Blk.new' _ _ _ ?_; first | rfl | (simp; done)) | apply Blk.drew | apply Blk.alloc | (refine Blk.far' ?_ _ ?_; ((try simp) <;> omega)) | apply tri0 | (refine Blk.up ?_ UB) | (refine Blk.up ?_ UA) | exact Kp.refl _ | apply Kp.drew | apply Kp.alloc | apply Kp.tri0 | (refine Kp.trans ?_ (Kp.of UB)) | exact U1 | apply Below.drew | apply Below.alloc | apply Below.setCell | (refine Up.trans ?_ UB) | (refine Up.trans ?_ UA)))
      all_goals ((try simp) <;> omega)
  case rest =>
    obtain ⟨g1, g2, rfl, rfl, ⟨s2, A2, n2, c2, A2', n2', c2', a3, F⟩, ⟨s3, A3, n3, c3, A3', n3', c3', b3, G⟩, U3⟩ := hcut
    obtain ⟨N, D, rfl, rfl, p1, p2, p3, p4, p5, p6, _⟩ := F.opened
    obtain ⟨M, K, rfl, rfl, q1, q2, q3, q4, q5, q6, _⟩ := G.opened
    have hx : ln (N * K) ≤ B + C + 2 := Nat.le_trans (ln_mul N K) (by omega)
    have hy : ln (M * D) ≤ B + C + 2 := Nat.le_trans (ln_mul M D) (by omega)
    have M1 := Lib.hid (fun wx (h : Up wc wx) => multiply_any A2 c2 N A3' c3' K wx (p1.up h) (q2.up h) (by omega))
    have M2 := Lib.hid (fun wx (h : Up wc wx) => multiply_any A3 c3 M A2' c2' D wx (q1.up h) (p2.up h) (by omega))
    have S1 := Lib.hid (fun wx (h : Up wc wx) => fsign_q (F.up h) (by omega))
    have S2 := Lib.hid (fun wx (h : Up wc wx) => fsign_q (G.up h) (by omega))
    have HE := Lib.hid (cmp_eq p6 q6 p3 q3)
    have HL := Lib.hid (@sgn_sub_lt q r)
    have HG := Lib.hid (@sgn_sub_gt q r)
    have hb1 := sgn_bd q
    have hb2 := sgn_bd r
    obtain ⟨σ, hσ⟩ : ∃ σ, σ = sgn q := ⟨_, rfl⟩
    obtain ⟨τ, hτ⟩ : ∃ τ, τ = sgn r := ⟨_, rfl⟩
    rw [← hσ] at hb1 S1 HE HL HG
    rw [← hτ] at hb2 S2 HE HL HG
    obtain ⟨x, hxe⟩ : ∃ x, x = N * K := ⟨_, rfl⟩
    obtain ⟨y, hye⟩ : ∃ x, x = M * D := ⟨_, rfl⟩
    rw [← hxe] at M1 hx HE
    rw [← hye] at M2 hy HE
    clear F G p1 p2 p3 p4 p5 p6 q1 q2 q3 q4 q5 q6 hxe hye H1 H2 a1 b1 U1 z1 hσ hτ
    have s0 := And.intro (tri a3) (tri b3)
    go_wp2_with fail
    go_region_held3 (fun wx => (wx.cell? ⟨g1, 0, none⟩ = some (.bool s2) ∧ wx.cell? ⟨g1, 1, none⟩ = some (.slice A2 (ln N) c2) ∧ wx.cell? ⟨g1, 2, none⟩ = some (.slice A2' (ln D) c2')) ∧
        (wx.cell? ⟨g2, 0, none⟩ = some (.bool s3) ∧ wx.cell? ⟨g2, 1, none⟩ = some (.slice A3 (ln M) c3) ∧ wx.cell? ⟨g2, 2, none⟩ = some (.slice A3' (ln K) c3')))
      (first | exact s0 | exact s1 | exact s2')
      (first
        | (go_at_call_of 25 (Value.agg #[.bool s2, .slice A2 (ln N) c2, .slice A2' (ln D) c2']); refine (S1.out _ (by exact (Up.refl wc).drew)).mono ?_; rintro e w4 ⟨rfl, hb4⟩; have U4 : Up wc w4 := Up.trans (Up.refl wc).drew hb4; have a4 := a3.up U4; have b4 := b3.up U4; have s1 := And.intro (tri a4) (tri b4))
        | (go_at_call_of 25 (Value.agg #[.bool s3, .slice A3 (ln M) c3, .slice A3' (ln K) c3']); refine (S2.out _ (by exact U4)).mono ?_; rintro e w5 ⟨rfl, hb5⟩; have U5 := Up.trans U4 hb5; have a5 := Blk.up a4 hb5; have b5 := Blk.up b4 hb5; have s2' := And.intro (tri a5) (tri b5)))
    clear s0 s1 S1 S2 a4 b4 a3 b3 hb4 hb5 U4
    rcases Int.lt_trichotomy σ τ with hlt | heq | hgt
    · have HV := Lib.hid (HL.out hlt)
      go_wp2_with fail
      go_ret
      rw [HV.out]
      exact ⟨rfl, U3.trans U5⟩
    · have HV := Lib.hid (HE.out heq)
      subst heq
      have hd1 : decide (σ < σ) = false := by simp
      have hcb := cmpN_bd x y
      have HC := Lib.hid (fun (wx : World) (X : Option Addr) (cx : Nat) (Y : Option Addr) (cy : Nat) (h1 : NS wx X x) (h2 : NS wx Y y) => compare_any X cx x Y cy y wx h1 h2 (by omega) (by omega))
      obtain ⟨κ, hκ⟩ : ∃ κ, κ = cmpN x y := ⟨_, rfl⟩
      rw [← hκ] at HV HC hcb
      have hm : -1 ≤ σ * κ ∧ σ * κ ≤ 1 := by
        have : σ = -1 ∨ σ = 0 ∨ σ = 1 := by omega
        rcases this with rfl | rfl | rfl <;> omega
      have e1 : IntKind.i64.wrap (σ * κ) = σ * κ := IntWalk.i64_in _ (by omega)
      clear HE HL HG hκ
      go_wp2_with fail
      go_region_held3 (fun wx => (wx.cell? ⟨g1, 0, none⟩ = some (.bool s2) ∧ wx.cell? ⟨g1, 1, none⟩ = some (.slice A2 (ln N) c2) ∧ wx.cell? ⟨g1, 2, none⟩ = some (.slice A2' (ln D) c2')) ∧
        (wx.cell? ⟨g2, 0, none⟩ = some (.bool s3) ∧ wx.cell? ⟨g2, 1, none⟩ = some (.slice A3 (ln M) c3) ∧ wx.cell? ⟨g2, 2, none⟩ = some (.slice A3' (ln K) c3')))
        (first | exact s2' | exact s3' | exact s4' | exact s5')
        (first
          | (go_at_call_of 21 (Value.slice A2 (ln N) c2); refine (M1.out _ (by exact U5.drew)).mono ?_; rintro e w6 ⟨X, cx, rfl, x1, x2, x3, hb6⟩; have U6 : Up wc w6 := Up.trans U5.drew hb6; have a6 := Blk.up (w := w5.drew) a5 hb6; have b6 := Blk.up (w := w5.drew) b5 hb6; have s3' := And.intro (tri a6) (tri b6))
          | (go_at_call_of 21 (Value.slice A3 (ln M) c3); refine (M2.out _ (by exact U6)).mono ?_; rintro e w7 ⟨Y, cy, rfl, y1, y2, y3, hb7⟩; have U7 := Up.trans U6 hb7; have a7 := Blk.up a6 hb7; have b7 := Blk.up b6 hb7; have X7 := Lib.hid (NS.up x3 hb7); have Y7 := Lib.hid y3; have s4' := And.intro (tri a7) (tri b7))
          | (go_at_call 26; refine (HC.out _ X cx Y cy X7.out Y7.out).mono ?_; rintro e w8 ⟨rfl, hb8⟩; have U8 := Up.trans U7 hb8; have a8 := Blk.up a7 hb8; have b8 := Blk.up b7 hb8; have s5' := And.intro (tri a8) (tri b8)))
      clear e1
      go_wp2_with fail
      go_ret
      exact ⟨ret_int HV.out, U3.trans U8⟩
    · have HV := Lib.hid (HG.out hgt)
      have hd1 : decide (σ < τ) = false := by simp; omega
      go_wp2_with fail
      go_ret
      rw [HV.out]
      exact ⟨rfl, U3.trans U5⟩
end Go.Proofs.YtefiapjfiojaoaaDoor

/-
  Rational numbers as values: Floor, Ceil.
-/
namespace Go.Proofs.YtefiapjfiojaoaaDoor
open Go.RowKit

/-- The integer beside q: below it for -1, above it for 1. -/
def rndQ (q : Rat) (away : Int) : Rat := if away = -1 then (q.floor : Rat) else (q.ceil : Rat)
theorem fq_one (s : Bool) (n : Nat) : fq s n 1 = if s = true then ((-(n : Int) : Int) : Rat) else ((n : Int) : Rat) := by
  cases s
  · rw [if_neg (by simp), fq_nat]; rfl
  · rw [if_pos rfl, show fq true n 1 = - fq false n 1 from by rw [fq_neg]; rfl, fq_nat]; simp; rfl
theorem fq_ceil {s : Bool} {n d : Nat} (hd : d ≠ 0) : (fq s n d).ceil = if s = true then -((n / d : Nat) : Int) else ((n / d : Nat) : Int) + (if n % d = 0 then 0 else 1) := by
  rw [Rat.ceil_eq_neg_floor_neg, fq_neg, fq_floor hd]
  generalize n / d = k
  cases s
  · show -(-(k : Int) - (if n % d = 0 then 0 else 1)) = (k : Int) + (if n % d = 0 then 0 else 1)
    split <;> omega
  · rfl
theorem rnd_up {q : Rat} {s : Bool} {n d : Nat} {away : Int} (hq : q = fq s n d) (hd : d ≠ 0) (ha : away = -1 ∨ away = 1) (h1 : n % d ≠ 0) (h2 : sgn q = away) : fq s (n / d + 1) 1 = rndQ q away := by
  have hn : n ≠ 0 := by rintro rfl; simp at h1
  rw [hq, sgn_fq s n d hd, if_neg hn] at h2
  unfold rndQ
  rw [hq, fq_one, fq_floor hd, fq_ceil hd, if_neg h1]
  generalize n / d = k
  cases s
  · have : away = 1 := h2.symm
    subst this
    rw [if_neg (show ¬ ((1 : Int) = -1) by omega)]
    rfl
  · have : away = -1 := h2.symm
    subst this
    rw [if_pos rfl]
    show ((-((k + 1 : Nat) : Int) : Int) : Rat) = ((-(k : Int) - 1 : Int) : Rat)
    congr 1
    omega
theorem rnd_no {q : Rat} {s : Bool} {n d : Nat} {away : Int} (hq : q = fq s n d) (hd : d ≠ 0) (ha : away = -1 ∨ away = 1) (h : n % d = 0 ∨ sgn q ≠ away) : fq s (n / d) 1 = rndQ q away := by
  by_cases h1 : n % d = 0
  · unfold rndQ
    rw [hq, fq_one, fq_floor hd, fq_ceil hd, if_pos h1]
    generalize n / d = k
    cases s
    · rcases ha with rfl | rfl
      · rw [if_pos rfl]; rfl
      · rw [if_neg (show ¬ ((1 : Int) = -1) by omega)]
        show ((k : Int) : Rat) = (((k : Int) + 0 : Int) : Rat)
        congr 1
    · rcases ha with rfl | rfl
      · rw [if_pos rfl]
        show ((-(k : Int) : Int) : Rat) = ((-(k : Int) - 0 : Int) : Rat)
        congr 1
        omega
      · rw [if_neg (show ¬ ((1 : Int) = -1) by omega)]; rfl
  · have h2 := h.resolve_left h1
    have hn : n ≠ 0 := by rintro rfl; simp at h1
    rw [hq, sgn_fq s n d hd, if_neg hn] at h2
    unfold rndQ
    rw [hq, fq_one, fq_floor hd, fq_ceil hd]
    generalize n / d = k
    cases s
    · rcases ha with rfl | rfl
      · rw [if_pos rfl]; rfl
      · exact absurd rfl h2
    · rcases ha with rfl | rfl
      · exact absurd rfl h2
      · rw [if_neg (show ¬ ((1 : Int) = -1) by omega)]; rfl

end Go.Proofs.YtefiapjfiojaoaaDoor

/-
  The comparisons and guards of the statements: sameLimbs, SameRat, Rat.
-/
namespace Go.Proofs.YtefiapjfiojaoaaDoor
open Go.RowKit

set_option maxHeartbeats 3200000 in
theorem sameLimbs_any (A : Option Addr) (cap x : Nat) (B : Option Addr) (dap y : Nat) (w : World) (ha : NS w A x) (hb : NS w B y) (hla : ln x ≤ 17592186044416) (hlb : ln y ≤ 17592186044416) :
    Calls Tryd.prog 23 #[.slice A (ln x) cap, .slice B (ln y) dap] w fun e w' => e = .returned (.bool (decide (x = y))) ∧ Up w w' := by
  by_cases hlen : ln x = ln y
  · unfold NS at ha hb
    have hnx := nv_digs x
    have hny := nv_digs y
    have hlnx : (digs x).length = ln x := rfl
    have hlny : (digs y).length = ln y := rfl
    have hxy : digs x = digs y ↔ x = y := ⟨fun h => by rw [← hnx, ← hny, h], fun h => by rw [h]⟩
    obtain ⟨xa, has⟩ : ∃ ns, ns = digs x := ⟨_, rfl⟩
    obtain ⟨xb, hbs⟩ : ∃ ns, ns = digs y := ⟨_, rfl⟩
    rw [← has] at ha hlnx hxy
    rw [← hbs] at hb hlny hxy
    rw [← hlnx] at hla hlen ⊢
    rw [← hlny] at hlb hlen ⊢
    clear has hbs hlnx hlny hnx hny
    have HX := Lib.hid hxy
    have HE := Lib.hid hlen
    have he1 : xb.length ≤ xa.length := by omega
    have he2 : xa.length ≤ xb.length := by omega
    have hne : (((xa.length : Nat) : Int) != (xb.length : Nat)) = false := by simp; omega
    have hne2 : (xa.length != xb.length) = false := by simp; omega
    clear hlen hxy
    go_enter Tryd.func23, Tryd.ntmps23
    go_wp2_with fail
    go_loopw [13] (fun i wr => ∃ k : Nat, k ≤ xa.length ∧ i = .int .i64 k ∧ xa.take k = xb.take k ∧ Up w wr) (fun i _ => xa.length - (intOf i).toNat)
    case atStart => exact ⟨0, Nat.zero_le _, rfl, by simp, Up.refl _⟩
    case round =>
      obtain ⟨k, hk, rfl, heq, hU⟩ := hrel
      by_cases hlt : k < xa.length
      · have hmb : k < xb.length := by omega
        obtain ⟨ad, rfl, had, hca⟩ := (ha.below hU).nat hlt
        obtain ⟨ae, rfl, hae, hcb⟩ := (hb.below hU).nat hmb
        have h3 : xa[k] = xb[k] → xa.take (k + 1) = xb.take (k + 1) := fun e => by rw [List.take_succ_eq_append_getElem hlt, List.take_succ_eq_append_getElem hmb, e, heq]
        have h4 : xa[k] ≠ xb[k] → decide (x = y) = false := fun e => by
          rw [decide_eq_false_iff_not]
          intro h
          have := HX.out.2 h
          subst this
          exact e rfl
        have H3 := Lib.hid h3
        have H4 := Lib.hid h4
        obtain ⟨p, hp⟩ : ∃ p, p = xa[k] := ⟨_, rfl⟩
        obtain ⟨q, hq⟩ : ∃ q, q = xb[k] := ⟨_, rfl⟩
        rw [← hp] at hca H3 H4
        rw [← hq] at hcb H3 H4
        have ki1 : (0 : Int) ≤ k := by omega
        have ki2 : (k : Int) < xa.length := by omega
        have ki3 : (k : Int) < xb.length := by omega
        clear hp hq h3 h4 heq
        by_cases hpq : p = q
        · subst hpq
          have HC := Lib.hid (H3.out rfl)
          have hd : (((p : Nat) : Int) != (p : Nat)) = false := by simp
          have hd2 : (p != p) = false := by simp
          clear H4
          go_wp2_with fail
          go_quiet (fail)
          go_wp2_with fail
          go_roundw
          case rel => exact ⟨k + 1, by omega, by go_num, HC.out, below_drewN hU _⟩
          case measure => simp [intOf] <;> omega
        · have HC := Lib.hid (H4.out hpq)
          have hd : (((p : Nat) : Int) != (q : Nat)) = true := by simp; omega
          have hd2 : (p != q) = true := by simp; omega
          clear hpq
          go_wp2_with fail
          go_quiet (fail)
          go_wp2_with fail
          go_ret
          rw [HC.out]
          exact ⟨rfl, below_drewN hU _⟩
      · have hk' : k = xa.length := by omega
        subst hk'
        have hxy : decide (x = y) = true := by
          rw [decide_eq_true_iff]
          refine HX.out.1 ?_
          rw [List.take_length, HE.out, List.take_length] at heq
          exact heq
        have HC := Lib.hid hxy
        clear hxy heq
        go_wp2_with fail
        go_ret
        rw [HC.out]
        exact ⟨rfl, hU⟩
  · have HC : Hid (decide (x = y) = false) := by
      refine Lib.hid ?_
      rw [decide_eq_false_iff_not]
      rintro rfl; exact hlen rfl
    obtain ⟨a, haa⟩ : ∃ a, a = ln x := ⟨_, rfl⟩
    obtain ⟨b, hbb⟩ : ∃ a, a = ln y := ⟨_, rfl⟩
    rw [← haa] at hla hlen ⊢
    rw [← hbb] at hlb hlen ⊢
    have hne : ((a : Int) != b) = true := by simp; omega
    have hne2 : (a != b) = true := by simp; omega
    clear haa hbb ha hb hlen
    go_enter Tryd.func23, Tryd.ntmps23
    go_wp2_with fail
    go_ret
    rw [HC.out]
    exact ⟨rfl, Up.refl _⟩

theorem rat_ext (q r : Rat) : q = r ↔ decide (q.num < 0) = decide (r.num < 0) ∧ q.num.natAbs = r.num.natAbs ∧ q.den = r.den := by
  constructor
  · rintro rfl; exact ⟨rfl, rfl, rfl⟩
  · rintro ⟨h1, h2, h3⟩
    rw [← fq_self q, ← fq_self r, h1, h2, h3]
theorem QV.opened {w : World} {s : Bool} {A A' : Option Addr} {n c n' c' : Nat} {q : Rat} (h : QV w (.agg #[.bool s, .slice A n c, .slice A' n' c']) q) :
    s = decide (q.num < 0) ∧ n = ln q.num.natAbs ∧ n' = ln q.den ∧ NS w A q.num.natAbs ∧ NS w A' q.den ∧ ln q.num.natAbs ≤ c ∧ c ≤ 9223372036854775807 ∧ ln q.den ≤ c' ∧ c' ≤ 9223372036854775807 := by
  obtain ⟨C, ca, C', cb, e, h1, h2, h3, h4, h5, h6⟩ := h
  injection e with e
  simp at e
  obtain ⟨rfl, ⟨rfl, rfl, rfl⟩, rfl, rfl, rfl⟩ := e
  exact ⟨rfl, rfl, rfl, h1, h2, h3, h4, h5, h6⟩

set_option maxRecDepth 100000 in
set_option maxHeartbeats 3200000 in
theorem sameRat_q {v v' : Value} {q r : Rat} {w : World} (hf : QV w v q) (hg : QV w v' r) (hB : qs q ≤ 17179869184) (hC : qs r ≤ 17179869184) :
    Calls Tryd.prog 11 #[v, v'] w fun e w' => e = .returned (.bool (decide (q = r))) ∧ Up w w' := by
  obtain ⟨s, A, n, c, A', n', c', rfl⟩ := hf.shape
  obtain ⟨t, E, m, d, E', m', d', rfl⟩ := hg.shape
  obtain ⟨hs, rfl, rfl, f1, f2, _⟩ := hf.opened
  obtain ⟨ht, rfl, rfl, g1, g2, _⟩ := hg.opened
  have b1 := qs_num q
  have b2 := qs_den q
  have b3 := qs_num r
  have b4 := qs_den r
  have K1 := Lib.hid (fun wx (h : Up w wx) => sameLimbs_any A c q.num.natAbs E d r.num.natAbs wx (f1.up h) (g1.up h) (by omega) (by omega))
  have K2 := Lib.hid (fun wx (h : Up w wx) => sameLimbs_any A' c' q.den E' d' r.den wx (f2.up h) (g2.up h) (by omega) (by omega))
  have hx := rat_ext q r
  rw [← hs, ← ht] at hx
  obtain ⟨x, hxe⟩ : ∃ x, x = q.num.natAbs := ⟨_, rfl⟩
  obtain ⟨y, hye⟩ : ∃ x, x = r.num.natAbs := ⟨_, rfl⟩
  obtain ⟨x', hxe'⟩ : ∃ x, x = q.den := ⟨_, rfl⟩
  obtain ⟨y', hye'⟩ : ∃ x, x = r.den := ⟨_, rfl⟩
  rw [← hxe, ← hye] at K1 hx
  rw [← hxe', ← hye'] at K2 hx
  rw [← hxe, ← hye, ← hxe', ← hye']
  have HX := Lib.hid hx
  clear hx hxe hye hxe' hye' hs ht f1 f2 g1 g2 b1 b2 b3 b4 hB hC hf hg
  have U0 : Up w ((w.alloc (Obj.cells #[.bool s, .slice A (ln x) c, .slice A' (ln x') c'] 24)).alloc (Obj.cells #[.bool t, .slice E (ln y) d, .slice E' (ln y') d'] 24)) := ((Below.refl _ _).alloc (Nat.le_refl _) _).alloc (by simp) _
  have a0 : Blk ((w.alloc (Obj.cells #[.bool s, .slice A (ln x) c, .slice A' (ln x') c'] 24)).alloc (Obj.cells #[.bool t, .slice E (ln y) d, .slice E' (ln y') d'] 24)) w.heap.size 24 #[.bool s, .slice A (ln x) c, .slice A' (ln x') c'] := (Blk.new w _ _).alloc _
  have e0 : Blk ((w.alloc (Obj.cells #[.bool s, .slice A (ln x) c, .slice A' (ln x') c'] 24)).alloc (Obj.cells #[.bool t, .slice E (ln y) d, .slice E' (ln y') d'] 24)) (w.heap.size + 1) 24 #[.bool t, .slice E (ln y) d, .slice E' (ln y') d'] := Blk.new' _ _ _ (by simp)
  obtain ⟨w1, hw1⟩ : ∃ w1, w1 = ((w.alloc (Obj.cells #[.bool s, .slice A (ln x) c, .slice A' (ln x') c'] 24)).alloc (Obj.cells #[.bool t, .slice E (ln y) d, .slice E' (ln y') d'] 24)) := ⟨_, rfl⟩
  rw [← hw1] at U0 a0 e0
  have c0 := tri a0
  have d0 := tri e0
  by_cases hst : s = t
  · have hb : (s == t) = true := by rw [hst]; simp
    by_cases hxy : x = y
    · have hbx : decide (x = y) = true := by simp [hxy]
      rw [hbx] at K1
      have HV : Hid (decide (q = r) = decide (x' = y')) := by
        refine Lib.hid ?_
        rw [decide_eq_decide]
        exact ⟨fun h => (HX.out.1 h).2.2, fun h => HX.out.2 ⟨hst, hxy, h⟩⟩
      clear hst hxy hbx HX
      go_enter Tryd.func11, Tryd.ntmps11
      go_wp2_with fail
      rw [← hw1]
      obtain ⟨c0, c1, c2⟩ := c0
      obtain ⟨d0, d1, d2⟩ := d0
      clear hw1
      go_wp2_with fail
      refine (K1.out _ U0).mono ?_
      rintro e w2 ⟨rfl, U2⟩
      have a2 := tri (a0.up U2)
      have e2 := tri (e0.up U2)
      clear c0 c1 c2 d0 d1 d2
      obtain ⟨c0, c1, c2⟩ := a2
      obtain ⟨d0, d1, d2⟩ := e2
      go_wp2_with fail
      refine (K2.out _ (U0.trans U2)).mono ?_
      rintro e w3 ⟨rfl, U3⟩
      go_wp2_with fail
      go_ret
      rw [HV.out]
      exact ⟨rfl, (U0.trans U2).trans U3⟩
    · have hbx : decide (x = y) = false := by simp [hxy]
      rw [hbx] at K1
      have HV : Hid (decide (q = r) = false) := by
        refine Lib.hid ?_
        rw [decide_eq_false_iff_not]
        exact fun h => hxy (HX.out.1 h).2.1
      clear hst hxy hbx HX
      go_enter Tryd.func11, Tryd.ntmps11
      go_wp2_with fail
      rw [← hw1]
      obtain ⟨c0, c1, c2⟩ := c0
      obtain ⟨d0, d1, d2⟩ := d0
      clear hw1
      go_wp2_with fail
      refine (K1.out _ U0).mono ?_
      rintro e w2 ⟨rfl, U2⟩
      go_wp2_with fail
      go_ret
      rw [HV.out]
      exact ⟨rfl, U0.trans U2⟩
  · have hb : (s == t) = false := by simpa using hst
    have HV : Hid (decide (q = r) = false) := by
      refine Lib.hid ?_
      rw [decide_eq_false_iff_not]
      exact fun h => hst (HX.out.1 h).1
    clear hst HX
    go_enter Tryd.func11, Tryd.ntmps11
    go_wp2_with fail
    go_ret
    rw [HV.out]
    rw [hw1] at U0
    exact ⟨rfl, U0⟩

theorem keepRat_any (s : Bool) (A A' : Option Addr) (n n' c c' : Nat) (w : World) (h1 : n ≤ 9223372036854775807) (h2 : n' ≤ 9223372036854775807) :
    Calls Tryd.prog 6 #[.agg #[.bool s, .slice A n c, .slice A' n' c']] w fun e w' => e = .returned (.bool (decide (n ≤ 8) && decide (n' ≤ 8))) ∧ Up w w' := by
  by_cases h : n ≤ 8
  · have hd : decide (n ≤ 8) = true := by simp [h]
    have HV : Hid ((decide (n ≤ 8) && decide (n' ≤ 8)) = decide (n' ≤ 8)) := Lib.hid (by rw [hd]; rfl)
    have hd2 : decide ((n : Int) ≤ 8) = decide (n ≤ 8) := by rw [decide_eq_decide]; omega
    rw [hd] at hd2
    clear h
    go_enter Tryd.func6, Tryd.ntmps6
    go_wp2_with fail
    go_ret
    rw [HV.out]
    exact ⟨ret_bool (by simp <;> omega), (Below.refl _ _).alloc (Nat.le_refl _) _⟩
  · have hd : decide (n ≤ 8) = false := by simp; omega
    have HV : Hid ((decide (n ≤ 8) && decide (n' ≤ 8)) = false) := Lib.hid (by rw [hd]; rfl)
    have hd2 : decide ((n : Int) ≤ 8) = decide (n ≤ 8) := by rw [decide_eq_decide]; omega
    rw [hd] at hd2
    clear h
    go_enter Tryd.func6, Tryd.ntmps6
    go_wp2_with fail
    go_ret
    rw [HV.out]
    exact ⟨rfl, (Below.refl _ _).alloc (Nat.le_refl _) _⟩
end Go.Proofs.YtefiapjfiojaoaaDoor

/-
  Arguments opened: rational numbers; the sanity check of the statements.
-/
namespace Go.Proofs.YtefiapjfiojaoaaDoor
open Go.ChangeShapes Go.WideShapes Go.ChangeAt Go.RowKit Go.Joins

section
variable {H : Type} {enc : TypeId × Value → H} {w : World} {base : Nat} {spare : Nat → Bool} {held : Bool}
theorem nats_of {l : List Int} (h : ∀ n ∈ l, (Lit.int .u32 n).wf = true) : ∃ ns : List Nat, l = zs ns ∧ ∀ a ∈ ns, a < 4294967296 := by
  induction l with
  | nil => exact ⟨[], rfl, by simp⟩
  | cons a l ih =>
    obtain ⟨ns, h1, h2⟩ := ih fun n hn => h n (by simp [hn])
    have ha := h a (by simp)
    simp [Lit.wf, IntKind.min, IntKind.max, IntKind.bits, IntKind.signed] at ha
    refine ⟨a.toNat :: ns, ?_, ?_⟩
    · rw [h1]; simp [zs]; omega
    · intro b hb
      rcases List.mem_cons.1 hb with rfl | hb
      · omega
      · exact h2 b hb
set_option maxRecDepth 100000 in
/-- A rational number that came in. -/
theorem rat_arg {v : Value} {d : DataW H} {p : List MemPlace} {b0 : Nat} (hv : Value.okWide Tryd.prog w .any b0 24 v) (h : DataW.Trod enc Tryd.prog w 0 spare held 24 v d p) :
    ∃ s xs ys, RV w v s xs ys := by
  obtain ⟨v0, v1, v2, y0, y1, y2, n, rfl, _, _, h0, h1, h2⟩ := open_agg3 Tryd.underlying24 (by kernel_rfl) (by kernel_rfl) hv h
  obtain ⟨s, es, _⟩ := DataW.trod_bool Tryd.underlying4 h0
  simp at es
  subst es
  obtain ⟨A, ca, l, rfl, sA, la, ma, wa⟩ := ints_in Tryd.underlying22 Tryd.underlying25 (by kernel_rfl) h1
  obtain ⟨B, cb, m, rfl, sB, lb, mb, wb⟩ := ints_in Tryd.underlying22 Tryd.underlying25 (by kernel_rfl) h2
  obtain ⟨xs, rfl, hx⟩ := nats_of wa
  obtain ⟨ys, rfl, hy⟩ := nats_of wb
  rw [zs_length] at la lb
  exact ⟨s, xs, ys, A, ca, B, cb, by rw [zs_length, zs_length], sA, sB, hx, hy, la, ma, lb, mb⟩
end
/-- What RV is worth. -/
theorem RV.iv {w : World} {v : Value} {s : Bool} {xs ys : List Nat} (h : RV w v s xs ys) {B : Nat} (h1 : xs.length ≤ B) (h2 : ys.length ≤ B) : IV w v (fq s (nv xs) (nv ys)) B := ⟨s, xs, ys, h, h1, h2, rfl⟩
theorem RV.shape {w : World} {v : Value} {s : Bool} {xs ys : List Nat} (h : RV w v s xs ys) : ∃ A c B d, v = .agg #[.bool s, .slice A xs.length c, .slice B ys.length d] ∧ xs.length ≤ 9223372036854775807 ∧ ys.length ≤ 9223372036854775807 := by
  obtain ⟨A, ca, B, cb, e, _, _, _, _, h1, h2, h3, h4⟩ := h
  exact ⟨A, ca, B, cb, e, by omega, by omega⟩
theorem IV.of_up {w w' : World} {v : Value} {q : Rat} {B : Nat} (h : IV w v q B) (hu : Up w w') : IV w' v q B := h.up hu

theorem qv_lit {w : World} (s : Bool) (a b : Nat) {g h : Nat} {q : Rat} (ha : 0 < a) (ha' : a < 1000000000) (hb : 0 < b) (hb' : b < 1000000000)
    (hg : Blk w g 25 #[.int .u32 (a : Int)]) (hh : Blk w h 25 #[.int .u32 (b : Int)]) (hs : decide (q.num < 0) = s) (hn : q.num.natAbs = a) (hd : q.den = b) :
    QV w (.agg #[.bool s, .slice (some ⟨g, 0, none⟩) 1 1, .slice (some ⟨h, 0, none⟩) 1 1]) q := by
  have d1 : digs a = [a] := digs_small (by omega) ha'
  have d2 : digs b = [b] := digs_small (by omega) hb'
  have l1 : ln a = 1 := by rw [ln, d1]; rfl
  have l2 : ln b = 1 := by rw [ln, d2]; rfl
  unfold QV
  rw [hs, hn, hd]
  refine ⟨some ⟨g, 0, none⟩, 1, some ⟨h, 0, none⟩, 1, by rw [l1, l2], ?_, ?_, by omega, by omega, by omega, by omega⟩
  · unfold NS; rw [d1]; exact SI.blk (t := 25) _ hg hg.lt
  · unfold NS; rw [d2]; exact SI.blk (t := 25) _ hh hh.lt

set_option maxRecDepth 100000 in
set_option maxHeartbeats 1600000 in
theorem awake01_any (w : World) : Calls Tryd.prog 15 #[] w fun e w' => e = .returned (.bool true) ∧ Up w w' := by
  have H := Lib.hid (fun wx => small_q (w := wx) 6 (-4) (by omega) (by omega) (by omega) (by omega))
  have hq : ((6 : Int) : Rat) / ((-4 : Int) : Rat) = mkRat (-3) 2 := by decide +kernel
  rw [hq] at H
  have h1 : decide ((mkRat (-3) 2).num < 0) = true := by decide +kernel
  have h2 : (mkRat (-3) 2).num.natAbs = 3 := by decide +kernel
  have h3 : (mkRat (-3) 2).den = 2 := by decide +kernel
  have h4 : qs (mkRat (-3) 2) ≤ 1 := by
    unfold qs
    rw [h2, h3, ln, ln, digs_small (by omega) (by omega), digs_small (by omega) (by omega)]
    decide
  obtain ⟨q, hqq⟩ : ∃ q, q = mkRat (-3) 2 := ⟨_, rfl⟩
  rw [← hqq] at H h1 h2 h3 h4
  have HH := Lib.hid (And.intro h1 (And.intro h2 (And.intro h3 h4)))
  clear h1 h2 h3 h4 hqq hq
  go_enter Tryd.func15, Tryd.ntmps15
  go_wp2_with fail
  refine (H.out w).mono ?_
  rintro e w1 ⟨v1, rfl, hQ, hU⟩
  obtain ⟨s, A, n, c, A', n', c', rfl⟩ := hQ.shape
  have HQ := Lib.hid hQ
  clear hQ
  go_wp2_with fail
  have b1 : Blk ((w1.alloc (Obj.cells #[Value.int IntKind.u32 3] 25)).alloc (Obj.cells #[Value.int IntKind.u32 2] 25)) w1.heap.size 25 #[.int .u32 ((3 : Nat) : Int)] := (Blk.new w1 _ _).alloc _
  have b2 : Blk ((w1.alloc (Obj.cells #[Value.int IntKind.u32 3] 25)).alloc (Obj.cells #[Value.int IntKind.u32 2] 25)) (w1.heap.size + 1) 25 #[.int .u32 ((2 : Nat) : Int)] := Blk.new' _ _ _ (by simp)
  have U2 : Up w1 ((w1.alloc (Obj.cells #[Value.int IntKind.u32 3] 25)).alloc (Obj.cells #[Value.int IntKind.u32 2] 25)) := ((Below.refl _ _).alloc (Nat.le_refl _) _).alloc (by simp) _
  have HS := sameRat_q (HQ.out.up U2) (qv_lit true 3 2 (by omega) (by omega) (by omega) (by omega) b1 b2 HH.out.1 HH.out.2.1 HH.out.2.2.1) (by have := HH.out.2.2.2; omega) (by have := HH.out.2.2.2; omega)
  rw [show decide (q = q) = true from by simp] at HS
  refine HS.mono ?_
  rintro e w2 ⟨rfl, hU2⟩
  go_wp2_with fail
  go_ret
  exact ⟨rfl, hU.trans (U2.trans hU2)⟩
end Go.Proofs.YtefiapjfiojaoaaDoor

/-
  Sizes of absolute values and of integers above.
-/
namespace Go.Proofs.YtefiapjfiojaoaaDoor
open Go.RowKit

theorem qs_abs (a : Rat) : qs a.abs ≤ qs a := by
  have h := fq_abs (decide (a.num < 0)) a.num.natAbs a.den
  rw [fq_self] at h
  first
    | (rw [h]; exact qs_fq (qs_num a) (qs_den a) (qs_pos a))
    | (rw [← h]; exact qs_fq (qs_num a) (qs_den a) (qs_pos a))
theorem qs_ceil (a : Rat) : qs (a.ceil : Rat) ≤ qs a + 1 := by
  rw [Rat.ceil_eq_neg_floor_neg, Rat.intCast_neg, qs_neg]
  exact Nat.le_trans (qs_floor (-a)) (by rw [qs_neg]; omega)
end Go.Proofs.YtefiapjfiojaoaaDoor
