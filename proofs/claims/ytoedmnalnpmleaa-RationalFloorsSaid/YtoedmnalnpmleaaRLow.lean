/-
  Rational numbers as values: lowest, store.
-/
import Derived.Test.YtoedmnalnpmleaaRLoad
namespace Go.Proofs.Ytoedmnalnpmleaa
open Go.RowKit

def lwS (s : Bool) (n : Nat) : Bool := if n = 0 then false else s

set_option maxHeartbeats 3200000 in
theorem lowest_any (s : Bool) (A : Option Addr) (ca : Nat) (B : Option Addr) (cb : Nat) (n d : Nat) (w : World) (h1 : NS w A n) (h2 : NS w B d) (h3 : ln n ≤ ca) (h4 : ca ≤ 9223372036854775807) (h5 : ln d ≤ cb) (h6 : cb ≤ 9223372036854775807)
    (h7 : ln n ≤ 17179869183) (h8 : ln d ≤ 17179869183) (hd : d ≠ 0) :
    Calls Try.prog 31 #[.agg #[.bool s, .slice A (ln n) ca, .slice B (ln d) cb]] w (RetF w (lwS s n) (n / Nat.gcd n d) (d / Nat.gcd n d)) := by
  have H := Lib.hid (And.intro h1 h2)
  have HC := Lib.hid (And.intro h3 (And.intro h4 (And.intro h5 h6)))
  have HD := Lib.hid hd
  clear h1 h2 h3 h4 h5 h6 hd
  go_enter Try.func31, Try.ntmps31
  by_cases hn : n = 0
  · have HN := Lib.hid hn
    have ht : (((ln n : Nat) : Int) == 0) = true := by rw [hn, ln_zero]; rfl
    clear hn
    go_wp2_with fail
    refine bodyPost_ret (v := .agg #[.bool false, .slice none 0 0, .slice (some ⟨w.heap.size + 2, 0, none⟩) 1 1]) ?_ rfl ?_
    · simp [results, Try.results31, go_sem]
    · rw [HN.out, lwS, if_pos rfl, Nat.zero_div, Nat.gcd_zero_left, Nat.div_self (Nat.pos_of_ne_zero HD.out)]
      refine ⟨_, rfl, ⟨none, 0, some ⟨w.heap.size + 2, 0, none⟩, 1, by rw [ln_zero, ln_one], NS.zero, ?_, by rw [ln_zero]; omega, by omega, by rw [ln_one]; omega, by omega⟩, ?_⟩
      · have hd : zs (digs 1) = [1] := by rw [digs_small (by omega) (by omega)]; rfl
        unfold NS
        rw [hd]
        refine SI.blk _ (t := 36) ?_ ?_
        · exact Blk.new' _ _ _ (by simp)
        · simp
      · exact (((Below.refl _ _).alloc (Nat.le_refl _) _).alloc (by simp) _).alloc (by simp; omega) _
  · have ht : (((ln n : Nat) : Int) == 0) = false := by simp; exact fun h => hn (ln_eq_zero.1 h)
    have hs : lwS s n = s := by rw [lwS, if_neg hn]
    have HS := Lib.hid hs
    have HN := Lib.hid hn
    have l1 : ln n ≤ 17592186044416 := by omega
    have l2 : ln d ≤ 17592186044416 := by omega
    clear hn hs
    go_wp2_with fail
    obtain ⟨w1, hw1⟩ : ∃ w1, w1 = (w.alloc (Obj.cells #[.bool s, .slice A (ln n) ca, .slice B (ln d) cb] 41)).alloc (Obj.cells #[.bool false, .slice none 0 0, .slice none 0 0] 41) := ⟨_, rfl⟩
    have U1 : Up w w1 := by rw [hw1]; exact ((Below.refl _ _).alloc (Nat.le_refl _) _).alloc (by simp) _
    have b1 : Blk w1 w.heap.size 41 #[.bool s, .slice A (ln n) ca, .slice B (ln d) cb] := by rw [hw1]; exact (Blk.new w _ _).alloc _
    have r1 : Blk w1 (w.heap.size + 1) 41 #[.bool false, .slice none 0 0, .slice none 0 0] := by rw [hw1]; exact Blk.new' _ _ _ (by simp)
    rw [← hw1]
    clear hw1
    obtain ⟨b0, bb1, bb2⟩ := tri b1
    obtain ⟨d0, d1, d2⟩ := tri r1
    have f0 := r1.frozen 0
    have f1 := r1.frozen 1
    have f2 := r1.frozen 2
    refine (isOne_any B cb d w1 (H.out.2.up U1) l2).mono ?_
    rintro e w2 ⟨rfl, rfl⟩
    by_cases hd1 : d = 1
    · have HD1 := Lib.hid hd1
      have ht1 : (d == 1) = true := by simp [hd1]
      rw [ht1]
      clear hd1 ht1
      go_wp2_with fail
      obtain ⟨c0, c1, c2⟩ := tri (tri_set r1 (.bool s) (.slice A (ln n) ca) (.slice B (ln d) cb))
      refine bodyPost_ret (v := .agg #[.bool s, .slice A (ln n) ca, .slice B (ln d) cb]) ?_ rfl ?_
      · simp [results, Try.results31, go_sem, c0, c1, c2]
      · rw [HS.out, HD1.out, Nat.gcd_one_right, Nat.div_one, Nat.div_one]
        refine ⟨_, rfl, ⟨A, ca, B, cb, rfl, (H.out.1.up U1).far r1 noint3 (only_tri _ _ _), ?_, HC.out.1, HC.out.2.1, ?_, HC.out.2.2.2⟩, up_tri U1 (by omega) _ _ _⟩
        · have := (H.out.2.up U1).far r1 noint3 (only_tri (.bool s) (.slice A (ln n) ca) (.slice B (ln d) cb))
          rwa [HD1.out] at this
        · have := HC.out.2.2.1
          rwa [HD1.out] at this
    · have HD1 := Lib.hid hd1
      have ht1 : (d == 1) = false := by simp [hd1]
      rw [ht1]
      clear hd1 ht1
      go_wp2_with fail
      refine (gcd_any A ca n B cb d w1 (H.out.1.up U1) (H.out.2.up U1) HC.out.1 HC.out.2.2.1 HC.out.2.1 HC.out.2.2.2 h7 h8).mono ?_
      rintro e w3 ⟨G, cg, rfl, hg1, hg2, hg3, hU3⟩
      have U3 := U1.trans hU3
      have b3 := b1.up hU3
      have r3 := r1.up hU3
      obtain ⟨x0, x1, x2⟩ := tri b3
      obtain ⟨y0, y1, y2⟩ := tri r3
      have e0 := r3.frozen 0
      have e1 := r3.frozen 1
      have e2 := r3.frozen 2
      have HG0 := Lib.hid (Nat.gcd_pos_of_pos_right n (Nat.pos_of_ne_zero HD.out))
      have hgl : ln (Nat.gcd n d) ≤ 17179869183 := Nat.le_trans (ln_mono (Nat.gcd_le_right n (Nat.pos_of_ne_zero HD.out))) h8
      obtain ⟨g, hg⟩ : ∃ g, g = Nat.gcd n d := ⟨_, rfl⟩
      have HG := Lib.hid hg
      rw [← hg] at hg1 hg3 HG0 hgl ⊢
      clear hg b0 bb1 bb2 d0 d1 d2 f0 f1 f2
      go_wp2_with fail
      refine (isOne_any G cg g w3 hg3 (by omega)).mono ?_
      rintro e w4 ⟨rfl, rfl⟩
      by_cases hg1' : g = 1
      · have HG1 := Lib.hid hg1'
        have ht1 : (g == 1) = true := by simp [hg1']
        rw [ht1]
        clear hg1' ht1
        go_wp2_with fail
        obtain ⟨c0, c1, c2⟩ := tri (tri_set r3 (.bool s) (.slice A (ln n) ca) (.slice B (ln d) cb))
        refine bodyPost_ret (v := .agg #[.bool s, .slice A (ln n) ca, .slice B (ln d) cb]) ?_ rfl ?_
        · simp [results, Try.results31, go_sem, c0, c1, c2]
        · rw [HS.out, ← HG.out, HG1.out, Nat.div_one, Nat.div_one]
          exact ⟨_, rfl, ⟨A, ca, B, cb, rfl, (H.out.1.up U3).far r3 noint3 (only_tri _ _ _), (H.out.2.up U3).far r3 noint3 (only_tri _ _ _), HC.out.1, HC.out.2.1, HC.out.2.2.1, HC.out.2.2.2⟩, up_tri U3 (by omega) _ _ _⟩
      · have ht1 : (g == 1) = false := by simp [hg1']
        rw [ht1]
        clear hg1' ht1
        go_wp2_with fail
        refine (divide_any A ca n G cg g w3 (H.out.1.up U3) hg3 h7 (by omega) (by have := HG0.out; omega)).mono ?_
        rintro e w5 ⟨A5, c5, B5, d5, rfl, h51, h52, h53, h54, h55, h56, hU5⟩
        have U5 := U3.trans hU5
        have b5 := b3.up hU5
        obtain ⟨z0, z1, z2⟩ := tri b5
        have r5 := r3.up hU5
        go_wp2_with fail
        refine (divide_any B cb d G cg g w5 (H.out.2.up U5) (hg3.up hU5) h8 (by omega) (by have := HG0.out; omega)).mono ?_
        rintro e w6 ⟨A6, c6, B6, d6, rfl, h61, h62, h63, h64, h65, h66, hU6⟩
        have U6 := U5.trans hU6
        have b6 := b5.up hU6
        obtain ⟨t0, t1, t2⟩ := tri b6
        have r6 := r5.up hU6
        obtain ⟨k0, k1, k2⟩ := tri r6
        have m0 := r6.frozen 0
        have m1 := r6.frozen 1
        have m2 := r6.frozen 2
        go_wp2_with fail
        obtain ⟨c0, c1, c2⟩ := tri (tri_set r6 (.bool s) (.slice A5 (ln (n / g)) c5) (.slice A6 (ln (d / g)) c6))
        refine bodyPost_ret (v := .agg #[.bool s, .slice A5 (ln (n / g)) c5, .slice A6 (ln (d / g)) c6]) ?_ rfl ?_
        · simp [results, Try.results31, go_sem, c0, c1, c2]
        · rw [HS.out, ← HG.out]
          exact ⟨_, rfl, ⟨A5, c5, A6, c6, rfl, (h55.up hU6).far r6 noint3 (only_tri _ _ _), h65.far r6 noint3 (only_tri _ _ _), h51, h52, h61, h62⟩, up_tri U6 (by omega) _ _ _⟩
set_option maxHeartbeats 3200000 in
theorem store_any (s : Bool) (A : Option Addr) (ca : Nat) (B : Option Addr) (cb : Nat) (n d : Nat) (w : World) (h1 : NS w A n) (h2 : NS w B d) (h3 : ln n ≤ ca) (h4 : ca ≤ 9223372036854775807) (h5 : ln d ≤ cb) (h6 : cb ≤ 9223372036854775807)
    (h7 : ln n ≤ 17179869183) (h8 : ln d ≤ 17179869183) (hd : d ≠ 0) :
    Calls Try.prog 22 #[.agg #[.bool s, .slice A (ln n) ca, .slice B (ln d) cb]] w (RetF w (lwS s n) (n / Nat.gcd n d) (d / Nat.gcd n d)) := by
  have HL : ∀ wx, Up w wx → Calls Try.prog 31 #[.agg #[.bool s, .slice A (ln n) ca, .slice B (ln d) cb]] wx (RetF wx (lwS s n) (n / Nat.gcd n d) (d / Nat.gcd n d)) :=
    fun wx hu => lowest_any s A ca B cb n d wx (h1.up hu) (h2.up hu) h3 h4 h5 h6 h7 h8 hd
  have H := Lib.hid HL
  obtain ⟨N, hN⟩ : ∃ N, N = n / Nat.gcd n d := ⟨_, rfl⟩
  obtain ⟨D, hD⟩ : ∃ D, D = d / Nat.gcd n d := ⟨_, rfl⟩
  obtain ⟨S, hS⟩ : ∃ S, S = lwS s n := ⟨_, rfl⟩
  rw [← hN, ← hD, ← hS] at H ⊢
  clear HL h1 h2 h3 h4 h5 h6 hd hN hD hS
  go_enter Try.func22, Try.ntmps22
  go_wp2_with fail
  obtain ⟨w1, hw1⟩ : ∃ w1, w1 = (w.alloc (Obj.cells #[.bool s, .slice A (ln n) ca, .slice B (ln d) cb] 41)).alloc (Obj.cells #[.bool false, .slice none 0 0, .slice none 0 0] 24) := ⟨_, rfl⟩
  have U1 : Up w w1 := by rw [hw1]; exact ((Below.refl _ _).alloc (Nat.le_refl _) _).alloc (by simp) _
  have r1 : Blk w1 (w.heap.size + 1) 24 #[.bool false, .slice none 0 0, .slice none 0 0] := by rw [hw1]; exact Blk.new' _ _ _ (by simp)
  rw [← hw1]
  clear hw1
  refine (H.out w1 U1).mono ?_
  rintro e w2 ⟨v, rfl, ⟨A2, c2, B2, d2, rfl, k1, k2, k3, k4, k5, k6⟩, hU2⟩
  have U2 := U1.trans hU2
  have r2 := r1.up hU2
  obtain ⟨y0, y1, y2⟩ := tri r2
  have e0 := r2.frozen 0
  have e1 := r2.frozen 1
  have e2 := r2.frozen 2
  have z1 := r2.lt
  go_wp2_with fail
  obtain ⟨c0, c1, c2'⟩ := tri ((tri_set r2 (.bool S) (.slice A2 (ln N) c2) (.slice B2 (ln D) d2)).alloc (Obj.cells #[Value.bool S, Value.slice A2 (ln N) c2, Value.slice B2 (ln D) d2] 41))
  refine bodyPost_ret (v := .agg #[.bool S, .slice A2 (ln N) c2, .slice B2 (ln D) d2]) ?_ rfl ?_
  · simp [results, Try.results22, go_sem, c0, c1, c2']
  · exact ⟨_, rfl, ⟨A2, c2, B2, d2, rfl, k1.far r2 noint3 (only_alloc (only_tri _ _ _) _), k2.far r2 noint3 (only_alloc (only_tri _ _ _) _), k3, k4, k5, k6⟩, (up_tri U2 (by omega) _ _ _).alloc (by have := U2.size; simp [World.setCell]; omega) _⟩
end Go.Proofs.Ytoedmnalnpmleaa
