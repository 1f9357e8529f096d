/-
  Rational numbers as values: Mul.
-/
import Derived.Test.YtoedmnalnpmleaaRSub
namespace Go.Proofs.Ytoedmnalnpmleaa
open Go.RowKit

theorem far_ne {A B : Nat} (h : ∀ b, b < A → b < B) : (∀ b, b < A → b ≠ B) ∧ (∀ b, b < A → B ≠ b) ∧ (∀ b, b < A → b ≠ B + 1) ∧ (∀ b, b < A → B + 1 ≠ b) :=
  ⟨fun b k => by have := h b k; omega, fun b k => by have := h b k; omega, fun b k => by have := h b k; omega, fun b k => by have := h b k; omega⟩
theorem comp_lt {A B C : Nat} (h : ∀ b, b < A → b < B) (k : ∀ b, b < B → b < C) : ∀ b, b < A → b < C := fun b hb => k b (h b hb)
theorem Blk.far' {w : World} {g : Nat} {t : TypeId} {cs : Array Value} {p : Addr} (hp : g ≠ p.block) (u : Value) (h : Blk w g t cs) : Blk (w.setCell p u) g t cs := h.far hp u
theorem tri0 {w : World} {g : Nat} {t : TypeId} {x y z : Value} (h : Blk w g t #[.bool false, .slice none 0 0, .slice none 0 0]) : Blk (((w.setCell ⟨g, 0, none⟩ x).setCell ⟨g, 1, none⟩ y).setCell ⟨g, 2, none⟩ z) g t #[x, y, z] := tri_set h x y z
theorem Kp.tri0 {a b : World} {g : Nat} {s' : Bool} {C C' : Option Addr} {m m' d d' : Nat} (r : Blk b g 41 #[.bool false, .slice none 0 0, .slice none 0 0]) (h : Kp a b) :
    Kp a (((b.setCell ⟨g, 0, none⟩ (.bool s')).setCell ⟨g, 1, none⟩ (.slice C m d)).setCell ⟨g, 2, none⟩ (.slice C' m' d')) := h.tri r
/-- A box with a fraction in it. -/
def BoxFQ (w : World) (g : Nat) (q : Rat) (B : Nat) : Prop :=
  ∃ s A n c A' n' c', Blk w g 41 #[.bool s, .slice A n c, .slice A' n' c'] ∧ FQ w (.agg #[.bool s, .slice A n c, .slice A' n' c']) q B
theorem FQ.opened {w : World} {s : Bool} {A A' : Option Addr} {n c n' c' : Nat} {q : Rat} {B : Nat} (h : FQ w (.agg #[.bool s, .slice A n c, .slice A' n' c']) q B) :
    ∃ N D : Nat, n = ln N ∧ n' = ln D ∧ NS w A N ∧ NS w A' D ∧ D ≠ 0 ∧ ln N ≤ B ∧ ln D ≤ B ∧ q = fq s N D ∧ ln N ≤ c ∧ c ≤ 9223372036854775807 ∧ ln D ≤ c' ∧ c' ≤ 9223372036854775807 := by
  obtain ⟨s', N, D, ⟨C, ca, C', cb, e, h1, h2, h3, h4, h5, h6⟩, k1, k2, k3, k4⟩ := h
  injection e with e
  simp at e
  obtain ⟨rfl, ⟨rfl, rfl, rfl⟩, rfl, rfl, rfl⟩ := e
  exact ⟨N, D, rfl, rfl, h1, h2, k1, k2, k3, k4, h3, h4, h5, h6⟩
/-- Two boxes with what load gives, and the rest as it was. -/
def TwoBox (w : World) (h : Nat) (q r : Rat) (B C : Nat) (s5 s6 : Value) (wx : World) : Prop :=
  ∃ g1 g2 : Nat, s5 = .pointer (some ⟨g1, 0, none⟩) ∧ s6 = .pointer (some ⟨g2, 0, none⟩) ∧ BoxFQ wx g1 q B ∧ BoxFQ wx g2 r C ∧ Up w wx ∧ Blk wx h 24 #[.bool false, .slice none 0 0, .slice none 0 0]

set_option maxRecDepth 100000 in
set_option maxHeartbeats 3200000 in
theorem mul_q {v v' : Value} {q r : Rat} {B C : Nat} {w : World} (hf : IV w v q B) (hg : IV w v' r C) (hB : B + C ≤ 17179869180) :
    Calls Try.prog 12 #[v, v'] w (RetQ w (q * r)) := by
  have H1 := Lib.hid (fun wx (u : Up w wx) => load_q (hf.up u) (by omega))
  have H2 := Lib.hid (fun wx (u : Up w wx) => load_q (hg.up u) (by omega))
  obtain ⟨s, A, n, c, A', n', c', rfl⟩ := hf.shape
  obtain ⟨t, E, m, d, E', m', d', rfl⟩ := hg.shape
  clear hf hg
  go_enter Try.func12, Try.ntmps12
  go_upto_region 1 with fail
  obtain ⟨w1, hw1⟩ : ∃ w1, w1 = ((w.alloc (Obj.cells #[.bool s, .slice A n c, .slice A' n' c'] 24)).alloc (Obj.cells #[.bool t, .slice E m d, .slice E' m' d'] 24)).alloc (Obj.cells #[.bool false, .slice none 0 0, .slice none 0 0] 24) := ⟨_, rfl⟩
  have U1 : Up w w1 := by rw [hw1]; exact (((Below.refl _ _).alloc (Nat.le_refl _) _).alloc (by simp) _).alloc (by simp; omega) _
  have a1 : Blk w1 w.heap.size 24 #[.bool s, .slice A n c, .slice A' n' c'] := by rw [hw1]; exact ((Blk.new w _ _).alloc _).alloc _
  have b1 : Blk w1 (w.heap.size + 1) 24 #[.bool t, .slice E m d, .slice E' m' d'] := by rw [hw1]; exact (Blk.new' _ _ _ (by simp)).alloc _
  have r1 : Blk w1 (w.heap.size + 2) 24 #[.bool false, .slice none 0 0, .slice none 0 0] := by rw [hw1]; exact Blk.new' _ _ _ (by simp)
  rw [← hw1]
  clear hw1
  have z1 := r1.lt
  go_cut [5, 6] (fun s5 s6 wx => TwoBox w (w.heap.size + 2) q r (B + 1) (C + 1) s5 s6 wx)
  case first =>
    go_region_held3 (fun wx => (wx.cell? ⟨w.heap.size, 0, none⟩ = some (.bool s) ∧ wx.cell? ⟨w.heap.size, 1, none⟩ = some (.slice A n c) ∧ wx.cell? ⟨w.heap.size, 2, none⟩ = some (.slice A' n' c')) ∧
        (wx.cell? ⟨w.heap.size + 1, 0, none⟩ = some (.bool t) ∧ wx.cell? ⟨w.heap.size + 1, 1, none⟩ = some (.slice E m d) ∧ wx.cell? ⟨w.heap.size + 1, 2, none⟩ = some (.slice E' m' d')))
      (refine ⟨tri (t := 24) ?_, tri (t := 24) ?_⟩ <;> (repeat' (with_reducible first | exact a1 | exact b1 | apply Blk.drew | apply Blk.alloc | (refine Blk.far' ?_ _ ?_; ((try simp) <;> omega)) | (refine Blk.up ?_ UB) | (refine Blk.up ?_ UA))))
      (first
        | (go_at_call_of 23 (Value.agg #[.bool s, .slice A n c, .slice A' n' c']); refine (H1.out _ (by (repeat' (with_reducible first | exact U1 | apply Below.drew | apply Below.alloc | apply Below.setCell)) <;> (try simp) <;> omega)).mono ?_; rintro e w2 ⟨v2, rfl, hF, UA⟩; obtain ⟨s2', A2, n2, c2, A2', n2', c2', rfl⟩ := hF.shape; have HF := Lib.hid hF; clear hF; have zA := UA.size; (try simp at zA); obtain ⟨hc, hf, hzn, hy, hx, hn⟩ := bcell UA; (try (have hzz := comp_lt hz0 hzn; obtain ⟨na, nb, nc, nd⟩ := far_ne hzz)); obtain ⟨ma, mb, mc, md⟩ := far_ne hzn; have hz0 := hzn)
        | (go_at_call_of 23 (Value.agg #[.bool t, .slice E m d, .slice E' m' d']); refine (H2.out _ (by (repeat' (with_reducible first | exact U1 | apply Below.drew | apply Below.alloc | apply Below.setCell | (refine Up.trans ?_ UA))) <;> (try simp) <;> omega)).mono ?_; rintro e w3 ⟨v3, rfl, hG, UB⟩; obtain ⟨s3', A3, n3, c3, A3', n3', c3', rfl⟩ := hG.shape; have HG := Lib.hid hG; clear hG; have zB := UB.size; (try simp at zB); obtain ⟨hc, hf, hzn, hy, hx, hn⟩ := bcell UB; (try (have hzz := comp_lt hz0 hzn; obtain ⟨na, nb, nc, nd⟩ := far_ne hzz)); obtain ⟨ma, mb, mc, md⟩ := far_ne hzn; have hz0 := hzn))
    all_goals
      go_wp2_with fail
      go_meet
      refine ⟨_, _, rfl, rfl, ⟨s2', A2, n2, c2, A2', n2', c2', ?_, HF.out.kp ?_⟩, ⟨s3', A3, n3, c3, A3', n3', c3', ?_, HG.out.kp ?_⟩, ?_, ?_⟩
      all_goals
        (repeat' (with_reducible first | exact r1 | (refine Blk.new' _ _ _ ?_; first | rfl | (simp; done)) | apply Blk.drew | apply Blk.alloc | (refine Blk.far' ?_ _ ?_; ((try simp) <;> omega)) | apply tri0 | (refine Blk.up ?_ UB) | (refine Blk.up ?_ UA) | exact Kp.refl _ | apply Kp.drew | apply Kp.alloc | apply Kp.tri0 | (refine Kp.trans ?_ (Kp.of UB)) | exact U1 | apply Below.drew | apply Below.alloc | apply Below.setCell | (refine Up.trans ?_ UB) | (refine Up.trans ?_ UA)))
      all_goals ((try simp) <;> omega)
  case rest =>
    obtain ⟨g1, g2, rfl, rfl, ⟨s2, A2, n2, c2, A2', n2', c2', a3, F⟩, ⟨s3, A3, n3, c3, A3', n3', c3', b3, G⟩, U3, r3⟩ := hcut
    obtain ⟨N, D, rfl, rfl, p1, p2, p3, p4, p5, p6, _⟩ := F.opened
    obtain ⟨M, K, rfl, rfl, q1, q2, q3, q4, q5, q6, _⟩ := G.opened
    have HQ : Hid (q * r = fq (!(s2 == s3)) (N * M) (D * K)) := by rw [p6, q6]; exact fq_mul _ _ _ _ _ _
    have hx : ln (N * M) ≤ B + C + 2 := Nat.le_trans (ln_mul N M) (by omega)
    have hy : ln (D * K) ≤ B + C + 2 := Nat.le_trans (ln_mul D K) (by omega)
    have H0 := Lib.hid (Nat.mul_ne_zero p3 q3)
    have M1 := Lib.hid (fun wx (h : Up wc wx) => multiply_any A2 c2 N A3 c3 M wx (p1.up h) (q1.up h) (by omega))
    have M2 := Lib.hid (fun wx (h : Up wc wx) => multiply_any A2' c2' D A3' c3' K wx (p2.up h) (q2.up h) (by omega))
    have z3 := r3.lt
    have n1 : g1 ≠ w.heap.size + 2 := a3.ne_ r3 (by decide)
    have n2 : g2 ≠ w.heap.size + 2 := b3.ne_ r3 (by decide)
    have ze := U3.size
    obtain ⟨x, hxe⟩ : ∃ x, x = N * M := ⟨_, rfl⟩
    obtain ⟨y, hye⟩ : ∃ x, x = D * K := ⟨_, rfl⟩
    rw [← hxe, ← hye] at HQ
    rw [← hxe] at M1 hx
    rw [← hye] at M2 hy H0
    clear F G p1 p2 p3 p4 p5 p6 q1 q2 q3 q4 q5 q6 hxe hye H1 H2 a1 b1 r1 U1 z1
    have s0 := And.intro (tri a3) (tri b3)
    go_wp2_with fail
    go_region_held3 (fun wx => (wx.cell? ⟨g1, 0, none⟩ = some (.bool s2) ∧ wx.cell? ⟨g1, 1, none⟩ = some (.slice A2 (ln N) c2) ∧ wx.cell? ⟨g1, 2, none⟩ = some (.slice A2' (ln D) c2')) ∧
        (wx.cell? ⟨g2, 0, none⟩ = some (.bool s3) ∧ wx.cell? ⟨g2, 1, none⟩ = some (.slice A3 (ln M) c3) ∧ wx.cell? ⟨g2, 2, none⟩ = some (.slice A3' (ln K) c3')))
      (first | exact s0 | exact s1 | exact s2' | exact s3' | exact ⟨tri (((a6.far (by simp <;> omega) _).far (by simp <;> omega) _).far (by simp <;> omega) _), tri (((b6.far (by simp <;> omega) _).far (by simp <;> omega) _).far (by simp <;> omega) _)⟩)
      (first
        | (go_at_call_of 25 (Value.slice A2 (ln N) c2); refine (M1.out _ (by exact (Up.refl wc).drew)).mono ?_; rintro e w4 ⟨X, cx, rfl, x1, x2, x3, hb4⟩; have U4 : Up wc w4 := Up.trans (Up.refl wc).drew hb4; have a4 := a3.up U4; have b4 := b3.up U4; have r4 := r3.up U4; have s1 := And.intro (tri a4) (tri b4))
        | (go_at_call_of 25 (Value.slice A2' (ln D) c2'); refine (M2.out _ (by exact U4)).mono ?_; rintro e w5 ⟨Y, cy, rfl, y1, y2, y3, hb5⟩; have U5 := Up.trans U4 hb5; have a5 := Blk.up a4 hb5; have b5 := Blk.up b4 hb5; have r5 := Blk.up r4 hb5; have s2' := And.intro (tri a5) (tri b5); have HP : Hid (FQ w5 (.agg #[.bool (!(s2 == s3)), .slice X (ln x) cx, .slice Y (ln y) cy]) (q * r) (B + C + 2)) := Lib.hid ⟨_, _, _, ⟨_, _, _, _, rfl, NS.up x3 hb5, y3, x1, x2, y1, y2⟩, H0.out, hx, hy, HQ.out⟩)
        | (go_at_call 22; refine (store_q HP.out (by omega)).mono ?_; rintro e w6 ⟨v5, rfl, hQ, hU5⟩; obtain ⟨s5', B5, n5, d5, B5', n5', d5', rfl⟩ := hQ.shape; have HR := Lib.hid hQ; clear hQ; have U6 := Up.trans U5 hU5; have a6 := Blk.up a5 hU5; have b6 := Blk.up b5 hU5; have r6 := Blk.up r5 hU5; have s3' := And.intro (tri a6) (tri b6); obtain ⟨g0, g1', g2'⟩ := tri r6; have i0 := r6.frozen 0; have i1 := r6.frozen 1; have i2 := r6.frozen 2; have z6 := r6.lt))
    go_wp2_with fail
    obtain ⟨c0, c1, c2'⟩ := tri (tri_set r6 (.bool s5') (.slice B5 n5 d5) (.slice B5' n5' d5'))
    refine bodyPost_ret (v := .agg #[.bool s5', .slice B5 n5 d5, .slice B5' n5' d5']) ?_ rfl (ret_q r6 HR.out (U3.trans U6) (by omega))
    simp [results, Try.results12, go_sem, c0, c1, c2']
end Go.Proofs.Ytoedmnalnpmleaa
