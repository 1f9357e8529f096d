/-
  Rational numbers as values: Cmp.
-/
import Derived.Test.YtoedmnalnpmleaaRDiv
namespace Go.Proofs.Ytoedmnalnpmleaa
open Go.RowKit

theorem cmp_eq {q r : Rat} {s t : Bool} {N D M K : Nat} (hq : q = fq s N D) (hr : r = fq t M K) (hD : D ≠ 0) (hK : K ≠ 0) (h : sgn q = sgn r) : sgn q * cmpN (N * K) (M * D) = sgn (q - r) := by
  have h1 := sgn_fq s N D hD
  have h2 := sgn_fq t M K hK
  rw [← hq] at h1
  rw [← hr] at h2
  by_cases hN : N = 0
  · rw [if_pos hN] at h1
    rw [h1] at h
    have hM : M = 0 := by
      by_cases hM : M = 0
      · exact hM
      · rw [if_neg hM, ← h] at h2
        split at h2 <;> omega
    rw [hq, hr, hN, hM, fq_zero, fq_zero, show (0 : Rat) - 0 = 0 from by grind, sgn_zero]
    simp
  · rw [if_neg hN] at h1
    have hst : s = t := by
      by_cases hM : M = 0
      · rw [if_pos hM, ← h, h1] at h2
        split at h2 <;> omega
      · rw [if_neg hM, ← h, h1] at h2
        cases s <;> cases t <;> simp at h2 <;> rfl
    subst hst
    rw [h1, hq, hr, cmp_fq s N D M K hD hK]
theorem cmpN_bd (x y : Nat) : -1 ≤ cmpN x y ∧ cmpN x y ≤ 1 := by
  unfold cmpN
  split
  · omega
  · split <;> omega
theorem sgn_bd (q : Rat) : -1 ≤ sgn q ∧ sgn q ≤ 1 := by
  rcases sgn_cases q with ⟨_, e⟩ | ⟨_, e⟩ | ⟨_, e⟩ <;> omega

def TwoBox0 (w : World) (q r : Rat) (B C : Nat) (s5 s6 : Value) (wx : World) : Prop :=
  ∃ g1 g2 : Nat, s5 = .pointer (some ⟨g1, 0, none⟩) ∧ s6 = .pointer (some ⟨g2, 0, none⟩) ∧ BoxFQ wx g1 q B ∧ BoxFQ wx g2 r C ∧ Up w wx
set_option maxRecDepth 100000 in
set_option maxHeartbeats 6400000 in
theorem cmp_q {v v' : Value} {q r : Rat} {B C : Nat} {w : World} (hf : IV w v q B) (hg : IV w v' r C) (hB : B + C ≤ 17179869180) :
    Calls Try.prog 17 #[v, v'] w fun e w' => e = .returned (.int .i64 (sgn (q - r))) ∧ Up w w' := by
  have H1 := Lib.hid (fun wx (u : Up w wx) => load_q (hf.up u) (by omega))
  have H2 := Lib.hid (fun wx (u : Up w wx) => load_q (hg.up u) (by omega))
  obtain ⟨s, A, n, c, A', n', c', rfl⟩ := hf.shape
  obtain ⟨t, E, m, d, E', m', d', rfl⟩ := hg.shape
  clear hf hg
  go_enter Try.func17, Try.ntmps17
  go_upto_region 1 with fail
  obtain ⟨w1, hw1⟩ : ∃ w1, w1 = ((w.alloc (Obj.cells #[.bool s, .slice A n c, .slice A' n' c'] 24)).alloc (Obj.cells #[.bool t, .slice E m d, .slice E' m' d'] 24)) := ⟨_, rfl⟩
  have U1 : Up w w1 := by rw [hw1]; exact ((Below.refl _ _).alloc (Nat.le_refl _) _).alloc (by simp) _
  have a1 : Blk w1 w.heap.size 24 #[.bool s, .slice A n c, .slice A' n' c'] := by rw [hw1]; exact (Blk.new w _ _).alloc _
  have b1 : Blk w1 (w.heap.size + 1) 24 #[.bool t, .slice E m d, .slice E' m' d'] := by rw [hw1]; exact Blk.new' _ _ _ (by simp)
  rw [← hw1]
  clear hw1
  have z1 := b1.lt
  go_cut [5, 6] (fun s5 s6 wx => TwoBox0 w q r (B + 1) (C + 1) s5 s6 wx)
  case first =>
    go_region_held3 (fun wx => (wx.cell? ⟨w.heap.size, 0, none⟩ = some (.bool s) ∧ wx.cell? ⟨w.heap.size, 1, none⟩ = some (.slice A n c) ∧ wx.cell? ⟨w.heap.size, 2, none⟩ = some (.slice A' n' c')) ∧
        (wx.cell? ⟨w.heap.size + 1, 0, none⟩ = some (.bool t) ∧ wx.cell? ⟨w.heap.size + 1, 1, none⟩ = some (.slice E m d) ∧ wx.cell? ⟨w.heap.size + 1, 2, none⟩ = some (.slice E' m' d')))
      (refine ⟨tri (t := 24) ?_, tri (t := 24) ?_⟩ <;> (repeat' (with_reducible first | exact a1 | exact b1 | apply Blk.drew | apply Blk.alloc | (refine Blk.far' ?_ _ ?_; ((try simp) <;> omega)) | (refine Blk.up ?_ UB) | (refine Blk.up ?_ UA))))
      (first
        | (go_at_call_of 23 (Value.agg #[.bool s, .slice A n c, .slice A' n' c']); refine (H1.out _ (by (repeat' (with_reducible first | exact U1 | apply Below.drew | apply Below.alloc | apply Below.setCell)) <;> (try simp) <;> omega)).mono ?_; rintro e w2 ⟨v2, rfl, hF, UA⟩; obtain ⟨s2', A2, n2, c2, A2', n2', c2', rfl⟩ := hF.shape; have HF := Lib.hid hF; clear hF; have zA := UA.size; (try simp at zA); obtain ⟨hc, hf, hzn, hy, hx, hn⟩ := bcell UA; (try (have hzz := comp_lt hz0 hzn; obtain ⟨na, nb, nc, nd⟩ := far_ne hzz)); obtain ⟨ma, mb, mc, md⟩ := far_ne hzn; have hz0 := hzn)
        | (go_at_call_of 23 (Value.agg #[.bool t, .slice E m d, .slice E' m' d']); refine (H2.out _ (by (repeat' (with_reducible first | exact U1 | apply Below.drew | apply Below.alloc | apply Below.setCell | (refine Up.trans ?_ UA))) <;> (try simp) <;> omega)).mono ?_; rintro e w3 ⟨v3, rfl, hG, UB⟩; obtain ⟨s3', A3, n3, c3, A3', n3', c3', rfl⟩ := hG.shape; have HG := Lib.hid hG; clear hG; have zB := UB.size; (try simp at zB); obtain ⟨hc, hf, hzn, hy, hx, hn⟩ := bcell UB; (try (have hzz := comp_lt hz0 hzn; obtain ⟨na, nb, nc, nd⟩ := far_ne hzz)); obtain ⟨ma, mb, mc, md⟩ := far_ne hzn; have hz0 := hzn))
    all_goals
      go_wp2_with fail
      go_meet
      refine ⟨_, _, rfl, rfl, ⟨s2', A2, n2, c2, A2', n2', c2', ?_, HF.out.kp ?_⟩, ⟨s3', A3, n3, c3, A3', n3', c3', ?_, HG.out.kp ?_⟩, ?_⟩
      all_goals
        (repeat' (with_reducible first | exact a1 | (refine Blk.new' _ _ _ ?_; first | rfl | (simp; done)) | apply Blk.drew | apply Blk.alloc | (refine Blk.far' ?_ _ ?_; ((try simp) <;> omega)) | apply tri0 | (refine Blk.up ?_ UB) | (refine Blk.up ?_ UA) | exact Kp.refl _ | apply Kp.drew | apply Kp.alloc | apply Kp.tri0 | (refine Kp.trans ?_ (Kp.of UB)) | exact U1 | apply Below.drew | apply Below.alloc | apply Below.setCell | (refine Up.trans ?_ UB) | (refine Up.trans ?_ UA)))
      all_goals ((try simp) <;> omega)
  case rest =>
    obtain ⟨g1, g2, rfl, rfl, ⟨s2, A2, n2, c2, A2', n2', c2', a3, F⟩, ⟨s3, A3, n3, c3, A3', n3', c3', b3, G⟩, U3⟩ := hcut
    obtain ⟨N, D, rfl, rfl, p1, p2, p3, p4, p5, p6, _⟩ := F.opened
    obtain ⟨M, K, rfl, rfl, q1, q2, q3, q4, q5, q6, _⟩ := G.opened
    have hx : ln (N * K) ≤ B + C + 2 := Nat.le_trans (ln_mul N K) (by omega)
    have hy : ln (M * D) ≤ B + C + 2 := Nat.le_trans (ln_mul M D) (by omega)
    have M1 := Lib.hid (fun wx (h : Up wc wx) => multiply_any A2 c2 N A3' c3' K wx (p1.up h) (q2.up h) (by omega))
    have M2 := Lib.hid (fun wx (h : Up wc wx) => multiply_any A3 c3 M A2' c2' D wx (q1.up h) (p2.up h) (by omega))
    have S1 := Lib.hid (fun wx (h : Up wc wx) => fsign_q (F.up h) (by omega))
    have S2 := Lib.hid (fun wx (h : Up wc wx) => fsign_q (G.up h) (by omega))
    have HE := Lib.hid (cmp_eq p6 q6 p3 q3)
    have HL := Lib.hid (@sgn_sub_lt q r)
    have HG := Lib.hid (@sgn_sub_gt q r)
    have hb1 := sgn_bd q
    have hb2 := sgn_bd r
    obtain ⟨σ, hσ⟩ : ∃ σ, σ = sgn q := ⟨_, rfl⟩
    obtain ⟨τ, hτ⟩ : ∃ τ, τ = sgn r := ⟨_, rfl⟩
    rw [← hσ] at hb1 S1 HE HL HG
    rw [← hτ] at hb2 S2 HE HL HG
    obtain ⟨x, hxe⟩ : ∃ x, x = N * K := ⟨_, rfl⟩
    obtain ⟨y, hye⟩ : ∃ x, x = M * D := ⟨_, rfl⟩
    rw [← hxe] at M1 hx HE
    rw [← hye] at M2 hy HE
    clear F G p1 p2 p3 p4 p5 p6 q1 q2 q3 q4 q5 q6 hxe hye H1 H2 a1 b1 U1 z1 hσ hτ
    have s0 := And.intro (tri a3) (tri b3)
    go_wp2_with fail
    go_region_held3 (fun wx => (wx.cell? ⟨g1, 0, none⟩ = some (.bool s2) ∧ wx.cell? ⟨g1, 1, none⟩ = some (.slice A2 (ln N) c2) ∧ wx.cell? ⟨g1, 2, none⟩ = some (.slice A2' (ln D) c2')) ∧
        (wx.cell? ⟨g2, 0, none⟩ = some (.bool s3) ∧ wx.cell? ⟨g2, 1, none⟩ = some (.slice A3 (ln M) c3) ∧ wx.cell? ⟨g2, 2, none⟩ = some (.slice A3' (ln K) c3')))
      (first | exact s0 | exact s1 | exact s2')
      (first
        | (go_at_call_of 24 (Value.agg #[.bool s2, .slice A2 (ln N) c2, .slice A2' (ln D) c2']); refine (S1.out _ (by exact (Up.refl wc).drew)).mono ?_; rintro e w4 ⟨rfl, hb4⟩; have U4 : Up wc w4 := Up.trans (Up.refl wc).drew hb4; have a4 := a3.up U4; have b4 := b3.up U4; have s1 := And.intro (tri a4) (tri b4))
        | (go_at_call_of 24 (Value.agg #[.bool s3, .slice A3 (ln M) c3, .slice A3' (ln K) c3']); refine (S2.out _ (by exact U4)).mono ?_; rintro e w5 ⟨rfl, hb5⟩; have U5 := Up.trans U4 hb5; have a5 := Blk.up a4 hb5; have b5 := Blk.up b4 hb5; have s2' := And.intro (tri a5) (tri b5)))
    clear s0 s1 S1 S2 a4 b4 a3 b3 hb4 hb5 U4
    rcases Int.lt_trichotomy σ τ with hlt | heq | hgt
    · have HV := Lib.hid (HL.out hlt)
      go_wp2_with fail
      go_ret
      rw [HV.out]
      exact ⟨rfl, U3.trans U5⟩
    · have HV := Lib.hid (HE.out heq)
      subst heq
      have hd1 : decide (σ < σ) = false := by simp
      have hcb := cmpN_bd x y
      have HC := Lib.hid (fun (wx : World) (X : Option Addr) (cx : Nat) (Y : Option Addr) (cy : Nat) (h1 : NS wx X x) (h2 : NS wx Y y) => compare_any X cx x Y cy y wx h1 h2 (by omega) (by omega))
      obtain ⟨κ, hκ⟩ : ∃ κ, κ = cmpN x y := ⟨_, rfl⟩
      rw [← hκ] at HV HC hcb
      have hm : -1 ≤ σ * κ ∧ σ * κ ≤ 1 := by
        have : σ = -1 ∨ σ = 0 ∨ σ = 1 := by omega
        rcases this with rfl | rfl | rfl <;> omega
      have e1 : IntKind.i64.wrap (σ * κ) = σ * κ := IntWalk.i64_in _ (by omega)
      clear HE HL HG hκ
      go_wp2_with fail
      go_region_held3 (fun wx => (wx.cell? ⟨g1, 0, none⟩ = some (.bool s2) ∧ wx.cell? ⟨g1, 1, none⟩ = some (.slice A2 (ln N) c2) ∧ wx.cell? ⟨g1, 2, none⟩ = some (.slice A2' (ln D) c2')) ∧
        (wx.cell? ⟨g2, 0, none⟩ = some (.bool s3) ∧ wx.cell? ⟨g2, 1, none⟩ = some (.slice A3 (ln M) c3) ∧ wx.cell? ⟨g2, 2, none⟩ = some (.slice A3' (ln K) c3')))
        (first | exact s2' | exact s3' | exact s4' | exact s5')
        (first
          | (go_at_call_of 25 (Value.slice A2 (ln N) c2); refine (M1.out _ (by exact U5.drew)).mono ?_; rintro e w6 ⟨X, cx, rfl, x1, x2, x3, hb6⟩; have U6 : Up wc w6 := Up.trans U5.drew hb6; have a6 := Blk.up (w := w5.drew) a5 hb6; have b6 := Blk.up (w := w5.drew) b5 hb6; have s3' := And.intro (tri a6) (tri b6))
          | (go_at_call_of 25 (Value.slice A3 (ln M) c3); refine (M2.out _ (by exact U6)).mono ?_; rintro e w7 ⟨Y, cy, rfl, y1, y2, y3, hb7⟩; have U7 := Up.trans U6 hb7; have a7 := Blk.up a6 hb7; have b7 := Blk.up b6 hb7; have X7 := Lib.hid (NS.up x3 hb7); have Y7 := Lib.hid y3; have s4' := And.intro (tri a7) (tri b7))
          | (go_at_call 29; refine (HC.out _ X cx Y cy X7.out Y7.out).mono ?_; rintro e w8 ⟨rfl, hb8⟩; have U8 := Up.trans U7 hb8; have a8 := Blk.up a7 hb8; have b8 := Blk.up b7 hb8; have s5' := And.intro (tri a8) (tri b8)))
      clear e1
      go_wp2_with fail
      go_ret
      exact ⟨ret_int HV.out, U3.trans U8⟩
    · have HV := Lib.hid (HG.out hgt)
      have hd1 : decide (σ < τ) = false := by simp; omega
      go_wp2_with fail
      go_ret
      rw [HV.out]
      exact ⟨rfl, U3.trans U5⟩
end Go.Proofs.Ytoedmnalnpmleaa
