/-
  BinomialIdentity: for every three integers the law returns true. Conditions: none.
-/
import Derived.Test.YtiiebgfjdkkdeaaLProd
import Derived.Test.YtiiebgfjdkkdeaaLEval
import Derived.Test.YtiiebgfjdkkdeaaLSame
import Derived.Test.YtiiebgfjdkkdeaaBAwake
namespace Go.Proofs.Ytiiebgfjdkkdeaa
open Go.RowKit

theorem pat_row (a b : Nat) (x : Rat) : pat (rowQ a b) x = bc x a * bc x b := by
  rw [bc_prod, pat, rowQ_len]
  apply sm_congr
  intro i hi
  rw [rowQ, range_getD, if_pos hi]
theorem rowQ_mem {a b : Nat} (ha : a ≤ 16) (hb : b ≤ 16) : ∀ q ∈ rowQ a b, qs q ≤ 780 := fun q hq => by
  simp only [rowQ, List.mem_map, List.mem_range] at hq
  obtain ⟨k, hk, rfl⟩ := hq
  exact qs_pc _ _ _ (by omega) (by omega) (by omega)
theorem ident_eval {a b : Nat} {n : Int} (ha : a ≤ 8) (hb : b ≤ 8) (h4 : 0 ≤ n) : evalV (rowQ a b) n = bc (n : Rat) a * bc (n : Rat) b ∧ evalB (rowQ a b) = true := by
  rw [(eval_yes (ps := rowQ a b) (n := n) (by rw [rowQ_len]; omega)).1, (eval_yes (ps := rowQ a b) (n := n) (by rw [rowQ_len]; omega)).2, pat_row, show max 0 n = n by omega]
  exact ⟨rfl, rfl⟩
theorem ident_choose {a : Nat} {n : Int} (ha : a ≤ 8) (h4 : 0 ≤ n) : chooseV n (a : Int) = bc (n : Rat) a ∧ chooseB (a : Int) = true := by
  have h := chooseV_yes (n := n) (k := (a : Int)) (by omega) (by omega)
  rw [h.1, h.2, show max 0 n = n by omega, Int.toNat_natCast]
  exact ⟨rfl, rfl⟩

set_option maxRecDepth 100000 in
set_option maxHeartbeats 6400000 in
theorem BinomialIdentity_walk (a b n : Int) (w : World) (ha : (Lit.int .i64 a).wf = true) (hb : (Lit.int .i64 b).wf = true) (hn : (Lit.int .i64 n).wf = true) :
    Calls Try.prog 6 #[.int .i64 a, .int .i64 b, .int .i64 n] w fun e w' => e = .returned (.bool true) ∧ Up w w' := by
  simp [Lit.wf, IntKind.min, IntKind.max, IntKind.bits, IntKind.signed] at ha hb hn
  obtain ⟨hn1, hn2⟩ := hn
  by_cases h1 : a < 0
  · have t0 : decide (a < 0) = true := by simpa using h1
    clear h1
    go_enter Try.func6, Try.ntmps6
    go_wp2_with fail
    go_ret
    exact ⟨rfl, Up.refl _⟩
  have t0 : decide (a < 0) = false := by simpa using h1
  by_cases h2 : 8 < a
  · have t1 : decide (8 < a) = true := by simpa using h2
    clear h2
    go_enter Try.func6, Try.ntmps6
    go_wp2_with fail
    go_ret
    exact ⟨rfl, Up.refl _⟩
  have t1 : decide (8 < a) = false := by simpa using h2
  by_cases h3 : b < 0
  · have t2 : decide (b < 0) = true := by simpa using h3
    clear h3
    go_enter Try.func6, Try.ntmps6
    go_wp2_with fail
    go_ret
    exact ⟨rfl, Up.refl _⟩
  have t2 : decide (b < 0) = false := by simpa using h3
  by_cases h4 : 8 < b
  · have t3 : decide (8 < b) = true := by simpa using h4
    clear h4
    go_enter Try.func6, Try.ntmps6
    go_wp2_with fail
    go_ret
    exact ⟨rfl, Up.refl _⟩
  have t3 : decide (8 < b) = false := by simpa using h4
  by_cases h5 : n < 0
  · have t4 : decide (n < 0) = true := by simpa using h5
    clear h5
    go_enter Try.func6, Try.ntmps6
    go_wp2_with fail
    go_ret
    exact ⟨rfl, Up.refl _⟩
  have t4 : decide (n < 0) = false := by simpa using h5
  by_cases h6 : 1099511627776 < n
  · have t5 : decide (1099511627776 < n) = true := by simpa using h6
    clear h6
    go_enter Try.func6, Try.ntmps6
    go_wp2_with fail
    go_ret
    exact ⟨rfl, Up.refl _⟩
  have t5 : decide (1099511627776 < n) = false := by simpa using h6
  obtain ⟨a, rfl⟩ : ∃ m : Nat, a = (m : Int) := ⟨a.toNat, by omega⟩
  obtain ⟨b, rfl⟩ : ∃ m : Nat, b = (m : Int) := ⟨b.toNat, by omega⟩
  have t6 : decide (8 < a) = false := by simp; omega
  have t7 : decide (8 < b) = false := by simp; omega
  have HPP := prod_yes (a := a) (b := b) (by omega) (by omega)
  have HEE := ident_eval (a := a) (b := b) (n := n) (by omega) (by omega) (by omega)
  have HCA := ident_choose (a := a) (n := n) (by omega) (by omega)
  have HCB := ident_choose (a := b) (n := n) (by omega) (by omega)
  have hrm := rowQ_mem (a := a) (b := b) (by omega) (by omega)
  have HP := Lib.hid (fun wx => product_q (a : Int) (b : Int) (w := wx))
  have HX := Lib.hid (fun wx => choose_q n (a : Int) hn1 hn2 (w := wx))
  have HY := Lib.hid (fun wx => choose_q n (b : Int) hn1 hn2 (w := wx))
  have HE1 := Lib.hid (fun wx A' ca' (h : RX none wx A' (rowQ a b)) => eval_q (cap := ca') (B := 780) h hrm (by omega) (by omega) (by rw [rowQ_len]; omega) n hn1 hn2)
  rw [HPP.1, HPP.2] at HP
  rw [HCA.1, HCA.2] at HX
  rw [HCB.1, HCB.2] at HY
  rw [HEE.1, HEE.2] at HE1
  have SX := Lib.hid (Nat.le_trans (qs_bc n (by omega) hn2 a (by omega)) (by omega : 6 * a + 3 ≤ 400))
  have SY := Lib.hid (Nat.le_trans (qs_bc n (by omega) hn2 b (by omega)) (by omega : 6 * b + 3 ≤ 400))
  have SS := Lib.hid (Nat.le_trans (qs_mul (bc (n : Rat) a) (bc (n : Rat) b)) (Nat.le_trans (Nat.add_le_add SX.out SY.out) (by omega : 400 + 400 ≤ 17179869184)))
  have SM := SS
  obtain ⟨x, hx⟩ : ∃ x, x = bc (n : Rat) a := ⟨_, rfl⟩
  obtain ⟨y, hy⟩ : ∃ x, x = bc (n : Rat) b := ⟨_, rfl⟩
  rw [← hx] at HX HE1 SX SS SM
  rw [← hy] at HY HE1 SY SS SM
  clear hx hy HPP HEE HCA HCB hrm h1 h2 h3 h4 h5 h6
  go_enter Try.func6, Try.ntmps6
  have U : Up w w := Up.refl w
  go_wp2_with fail
  refine (HP.out _).mono ?_
  rintro e w1 ⟨A1, c1, rfl, h1, h2, h3, u1⟩
  have L1 := Lib.hid h3
  have H1 := Lib.hid (And.intro h1 h2)
  clear h1 h2 h3
  have ux : Up w w1 := u1
  replace U := Up.trans U ux
  clear ux
  go_wp2_with fail
  refine (HX.out _).mono ?_
  rintro e w2 ⟨v2, rfl, hQ2, u2⟩
  obtain ⟨s2, A2, n2, c2, B2, m2, d2, rfl⟩ := hQ2.shape
  have Q2 := Lib.hid hQ2
  clear hQ2
  have ux : Up w1 w2 := u2
  replace U := Up.trans U ux
  replace L1 := Lib.hid (L1.out.up ux)
  clear ux
  go_wp2_with fail
  obtain ⟨w3, hw3⟩ : ∃ wx, wx = (w2.alloc (Obj.cells #[.bool s2, .slice A2 n2 c2, .slice B2 m2 d2] 24)) := ⟨_, rfl⟩
  have hUw3 : Up w2 w3 := by rw [hw3]; exact Below.alloc (Below.refl _ _) (Nat.le_refl _) _
  have bx2 : Blk w3 (w2.heap.size) 24 #[.bool s2, .slice A2 n2 c2, .slice B2 m2 d2] := by rw [hw3]; exact Blk.new' _ _ _ (by simp)
  rw [← hw3]
  clear hw3
  obtain ⟨g2, hg2⟩ : ∃ g, g = w2.heap.size := ⟨_, rfl⟩
  rw [← hg2] at bx2
  try rw [show w2.heap.size = g2 from hg2.symm]
  clear hg2
  have ux : Up w2 w3 := hUw3
  replace U := Up.trans U ux
  replace L1 := Lib.hid (L1.out.up ux)
  replace Q2 := Lib.hid (Q2.out.up ux)
  clear ux
  clear hUw3
  obtain ⟨bx2a, bx2b, bx2c⟩ := tri bx2
  go_wp2_with fail
  refine (HY.out _).mono ?_
  rintro e w4 ⟨v4, rfl, hQ4, u4⟩
  obtain ⟨s4, A4, n4, c4, B4, m4, d4, rfl⟩ := hQ4.shape
  have Q4 := Lib.hid hQ4
  clear hQ4
  have ux : Up w3 w4 := u4
  replace U := Up.trans U ux
  replace L1 := Lib.hid (L1.out.up ux)
  replace Q2 := Lib.hid (Q2.out.up ux)
  replace bx2 := Blk.up bx2 ux
  clear ux
  clear bx2a bx2b bx2c
  obtain ⟨bx2a, bx2b, bx2c⟩ := tri bx2
  have zbx2 := bx2.lt
  go_wp2_with fail
  clear zbx2
  obtain ⟨w5, hw5⟩ : ∃ wx, wx = (w4.alloc (Obj.cells #[.bool s4, .slice A4 n4 c4, .slice B4 m4 d4] 24)) := ⟨_, rfl⟩
  have hUw5 : Up w4 w5 := by rw [hw5]; exact Below.alloc (Below.refl _ _) (Nat.le_refl _) _
  have bx4 : Blk w5 (w4.heap.size) 24 #[.bool s4, .slice A4 n4 c4, .slice B4 m4 d4] := by rw [hw5]; exact Blk.new' _ _ _ (by simp)
  rw [← hw5]
  clear hw5
  obtain ⟨g4, hg4⟩ : ∃ g, g = w4.heap.size := ⟨_, rfl⟩
  rw [← hg4] at bx4
  try rw [show w4.heap.size = g4 from hg4.symm]
  clear hg4
  have ux : Up w4 w5 := hUw5
  replace U := Up.trans U ux
  replace L1 := Lib.hid (L1.out.up ux)
  replace Q2 := Lib.hid (Q2.out.up ux)
  replace Q4 := Lib.hid (Q4.out.up ux)
  replace bx2 := Blk.up bx2 ux
  clear ux
  clear hUw5
  clear bx2a bx2b bx2c
  obtain ⟨bx2a, bx2b, bx2c⟩ := tri bx2
  obtain ⟨bx4a, bx4b, bx4c⟩ := tri bx4
  go_wp2_with fail
  refine (HE1.out _ _ _ L1.out).mono ?_
  rintro e w6 ⟨v6, rfl, hQ6, u6⟩
  obtain ⟨s6, A6, n6, c6, B6, m6, d6, rfl⟩ := hQ6.shape
  have Q6 := Lib.hid hQ6
  clear hQ6
  have ux : Up w5 w6 := u6
  replace U := Up.trans U ux
  replace L1 := Lib.hid (L1.out.up ux)
  replace Q2 := Lib.hid (Q2.out.up ux)
  replace Q4 := Lib.hid (Q4.out.up ux)
  replace bx2 := Blk.up bx2 ux
  replace bx4 := Blk.up bx4 ux
  clear ux
  clear bx2a bx2b bx2c bx4a bx4b bx4c
  obtain ⟨bx2a, bx2b, bx2c⟩ := tri bx2
  obtain ⟨bx4a, bx4b, bx4c⟩ := tri bx4
  have zbx2 := bx2.lt
  have zbx4 := bx4.lt
  go_wp2_with fail
  clear zbx2 zbx4
  obtain ⟨w7, hw7⟩ : ∃ wx, wx = (w6.alloc (Obj.cells #[.bool s6, .slice A6 n6 c6, .slice B6 m6 d6] 24)) := ⟨_, rfl⟩
  have hUw7 : Up w6 w7 := by rw [hw7]; exact Below.alloc (Below.refl _ _) (Nat.le_refl _) _
  have bx6 : Blk w7 (w6.heap.size) 24 #[.bool s6, .slice A6 n6 c6, .slice B6 m6 d6] := by rw [hw7]; exact Blk.new' _ _ _ (by simp)
  rw [← hw7]
  clear hw7
  obtain ⟨g6, hg6⟩ : ∃ g, g = w6.heap.size := ⟨_, rfl⟩
  rw [← hg6] at bx6
  try rw [show w6.heap.size = g6 from hg6.symm]
  clear hg6
  have ux : Up w6 w7 := hUw7
  replace U := Up.trans U ux
  replace Q2 := Lib.hid (Q2.out.up ux)
  replace Q4 := Lib.hid (Q4.out.up ux)
  replace Q6 := Lib.hid (Q6.out.up ux)
  replace bx2 := Blk.up bx2 ux
  replace bx4 := Blk.up bx4 ux
  clear ux
  clear hUw7
  clear bx2a bx2b bx2c bx4a bx4b bx4c
  obtain ⟨bx2a, bx2b, bx2c⟩ := tri bx2
  obtain ⟨bx4a, bx4b, bx4c⟩ := tri bx4
  obtain ⟨bx6a, bx6b, bx6c⟩ := tri bx6
  have HE : Hid (∀ W : World, Up w7 W → (W.cell? ⟨g2, 0, none⟩ = some (.bool s2) ∧ W.cell? ⟨g2, 1, none⟩ = some (.slice A2 n2 c2) ∧ W.cell? ⟨g2, 2, none⟩ = some (.slice B2 m2 d2)) ∧ (W.cell? ⟨g4, 0, none⟩ = some (.bool s4) ∧ W.cell? ⟨g4, 1, none⟩ = some (.slice A4 n4 c4) ∧ W.cell? ⟨g4, 2, none⟩ = some (.slice B4 m4 d4)) ∧ (W.cell? ⟨g6, 0, none⟩ = some (.bool s6) ∧ W.cell? ⟨g6, 1, none⟩ = some (.slice A6 n6 c6) ∧ W.cell? ⟨g6, 2, none⟩ = some (.slice B6 m6 d6))) := Lib.hid fun W hW => And.intro (tri (bx2.up hW)) (And.intro (tri (bx4.up hW)) (tri (bx6.up hW)))
  go_wp2_with fail
  refine wp_region_noPanic ?_
  refine wp_region_sched (S := (fun wx => (wx.cell? ⟨g2, 0, none⟩ = some (.bool s2) ∧ wx.cell? ⟨g2, 1, none⟩ = some (.slice A2 n2 c2) ∧ wx.cell? ⟨g2, 2, none⟩ = some (.slice B2 m2 d2)) ∧ (wx.cell? ⟨g4, 0, none⟩ = some (.bool s4) ∧ wx.cell? ⟨g4, 1, none⟩ = some (.slice A4 n4 c4) ∧ wx.cell? ⟨g4, 2, none⟩ = some (.slice B4 m4 d4)) ∧ (wx.cell? ⟨g6, 0, none⟩ = some (.bool s6) ∧ wx.cell? ⟨g6, 1, none⟩ = some (.slice A6 n6 c6) ∧ wx.cell? ⟨g6, 2, none⟩ = some (.slice B6 m6 d6)))) [(0, false), (1, false), (2, false), (3, false), (4, false), (5, false), (6, false), (7, false), (8, false), (9, false), (10, false), (11, false), (12, false), (13, false), (14, true), (15, true), (16, false), (17, false), (18, true), (19, false), (20, false)] (by kernel_rfl) (by as_aux_lemma => kernel_rfl) (by as_aux_lemma => kernel_rfl) (by as_aux_lemma => kernel_rfl) (fun _ _ _ _ _ h => h) (HE.out _ (Up.refl w7).drew) ?_
  intro O1 HO1
  refine wpSched_take (i := 0) (v := ?v1x1) (by as_aux_lemma => rw [HO1.out]; simp only [List.getElem?_toArray, List.getElem?_cons_zero]; rfl) (Or.inl ⟨(by rfl), ?y1x1⟩) ?r1x1
  case y1x1 => as_aux_lemma => intro wx hSx; (try dsimp only at hSx); go_simp; try with_reducible rfl
  try simp only [Act.put, List.setIfInBounds_toArray, List.set_cons_zero, List.set_cons_succ]
  refine wpSched_take (i := 1) (v := ?v1x2) (by as_aux_lemma => rw [HO1.out]; simp only [List.getElem?_toArray, List.getElem?_cons_succ, List.getElem?_cons_zero]; rfl) (Or.inl ⟨(by rfl), ?y1x2⟩) ?r1x2
  case y1x2 => as_aux_lemma => intro wx hSx; (try dsimp only at hSx); go_simp; try with_reducible rfl
  try simp only [Act.put, List.setIfInBounds_toArray, List.set_cons_zero, List.set_cons_succ]
  refine wpSched_take (i := 2) (v := ?v1x3) (by as_aux_lemma => rw [HO1.out]; simp only [List.getElem?_toArray, List.getElem?_cons_succ, List.getElem?_cons_zero]; rfl) (Or.inl ⟨(by as_aux_lemma => rw [HO1.out]; rfl), ?y1x3⟩) ?r1x3
  case y1x3 => as_aux_lemma => intro wx hSx; (try dsimp only at hSx); go_simp; try with_reducible rfl
  try simp only [Act.put, List.setIfInBounds_toArray, List.set_cons_zero, List.set_cons_succ]
  refine wpSched_take (i := 3) (v := ?v1x4) (by as_aux_lemma => rw [HO1.out]; simp only [List.getElem?_toArray, List.getElem?_cons_succ, List.getElem?_cons_zero]; rfl) (Or.inl ⟨(by rfl), ?y1x4⟩) ?r1x4
  case y1x4 => as_aux_lemma => intro wx hSx; (try dsimp only at hSx); go_simp; try with_reducible rfl
  try simp only [Act.put, List.setIfInBounds_toArray, List.set_cons_zero, List.set_cons_succ]
  refine wpSched_take (i := 4) (v := ?v1x5) (by as_aux_lemma => rw [HO1.out]; simp only [List.getElem?_toArray, List.getElem?_cons_succ, List.getElem?_cons_zero]; rfl) (Or.inl ⟨(by rfl), ?y1x5⟩) ?r1x5
  case y1x5 => as_aux_lemma => intro wx hSx; (try dsimp only at hSx); go_simp; try with_reducible rfl
  try simp only [Act.put, List.setIfInBounds_toArray, List.set_cons_zero, List.set_cons_succ]
  refine wpSched_take (i := 5) (v := ?v1x6) (by as_aux_lemma => rw [HO1.out]; simp only [List.getElem?_toArray, List.getElem?_cons_succ, List.getElem?_cons_zero]; rfl) (Or.inl ⟨(by as_aux_lemma => rw [HO1.out]; rfl), ?y1x6⟩) ?r1x6
  case y1x6 => as_aux_lemma => intro wx hSx; (try dsimp only at hSx); go_simp; try with_reducible rfl
  try simp only [Act.put, List.setIfInBounds_toArray, List.set_cons_zero, List.set_cons_succ]
  refine wpSched_take (i := 6) (v := ?v1x7) (by as_aux_lemma => rw [HO1.out]; simp only [List.getElem?_toArray, List.getElem?_cons_succ, List.getElem?_cons_zero]; rfl) (Or.inl ⟨(by rfl), ?y1x7⟩) ?r1x7
  case y1x7 => as_aux_lemma => intro wx hSx; (try dsimp only at hSx); go_simp; try with_reducible rfl
  try simp only [Act.put, List.setIfInBounds_toArray, List.set_cons_zero, List.set_cons_succ]
  refine wpSched_take (i := 7) (v := ?v1x8) (by as_aux_lemma => rw [HO1.out]; simp only [List.getElem?_toArray, List.getElem?_cons_succ, List.getElem?_cons_zero]; rfl) (Or.inl ⟨(by rfl), ?y1x8⟩) ?r1x8
  case y1x8 => as_aux_lemma => intro wx hSx; (try dsimp only at hSx); go_simp; try with_reducible rfl
  try simp only [Act.put, List.setIfInBounds_toArray, List.set_cons_zero, List.set_cons_succ]
  refine wpSched_take (i := 8) (v := ?v1x9) (by as_aux_lemma => rw [HO1.out]; simp only [List.getElem?_toArray, List.getElem?_cons_succ, List.getElem?_cons_zero]; rfl) (Or.inl ⟨(by as_aux_lemma => rw [HO1.out]; rfl), ?y1x9⟩) ?r1x9
  case y1x9 => as_aux_lemma => intro wx hSx; (try dsimp only at hSx); go_simp; try with_reducible rfl
  try simp only [Act.put, List.setIfInBounds_toArray, List.set_cons_zero, List.set_cons_succ]
  refine wpSched_take (i := 9) (v := ?v1x10) (by as_aux_lemma => rw [HO1.out]; simp only [List.getElem?_toArray, List.getElem?_cons_succ, List.getElem?_cons_zero]; rfl) (Or.inl ⟨(by rfl), ?y1x10⟩) ?r1x10
  case y1x10 => as_aux_lemma => intro wx hSx; (try dsimp only at hSx); go_simp; try with_reducible rfl
  try simp only [Act.put, List.setIfInBounds_toArray, List.set_cons_zero, List.set_cons_succ]
  refine wpSched_take (i := 10) (v := ?v1x11) (by as_aux_lemma => rw [HO1.out]; simp only [List.getElem?_toArray, List.getElem?_cons_succ, List.getElem?_cons_zero]; rfl) (Or.inl ⟨(by rfl), ?y1x11⟩) ?r1x11
  case y1x11 => as_aux_lemma => intro wx hSx; (try dsimp only at hSx); go_simp; try with_reducible rfl
  try simp only [Act.put, List.setIfInBounds_toArray, List.set_cons_zero, List.set_cons_succ]
  refine wpSched_take (i := 11) (v := ?v1x12) (by as_aux_lemma => rw [HO1.out]; simp only [List.getElem?_toArray, List.getElem?_cons_succ, List.getElem?_cons_zero]; rfl) (Or.inl ⟨(by as_aux_lemma => rw [HO1.out]; rfl), ?y1x12⟩) ?r1x12
  case y1x12 => as_aux_lemma => intro wx hSx; (try dsimp only at hSx); go_simp; try with_reducible rfl
  try simp only [Act.put, List.setIfInBounds_toArray, List.set_cons_zero, List.set_cons_succ]
  refine wpSched_take (i := 12) (v := ?v1x13) (by as_aux_lemma => rw [HO1.out]; simp only [List.getElem?_toArray, List.getElem?_cons_succ, List.getElem?_cons_zero]; rfl) (Or.inl ⟨(by as_aux_lemma => rw [HO1.out]; rfl), ?y1x13⟩) ?r1x13
  case y1x13 => as_aux_lemma => intro wx hSx; (try dsimp only at hSx); go_simp; try with_reducible rfl
  try simp only [Act.put, List.setIfInBounds_toArray, List.set_cons_zero, List.set_cons_succ]
  refine wpSched_take (i := 13) (v := ?v1x14) (by as_aux_lemma => rw [HO1.out]; simp only [List.getElem?_toArray, List.getElem?_cons_succ, List.getElem?_cons_zero]; rfl) (Or.inl ⟨(by as_aux_lemma => rw [HO1.out]; rfl), ?y1x14⟩) ?r1x14
  case y1x14 => as_aux_lemma => intro wx hSx; (try dsimp only at hSx); go_simp; try with_reducible rfl
  try simp only [Act.put, List.setIfInBounds_toArray, List.set_cons_zero, List.set_cons_succ]
  refine wpSched_call (i := 14) (by as_aux_lemma => rw [HO1.out]; simp only [List.getElem?_toArray, List.getElem?_cons_succ, List.getElem?_cons_zero]; rfl) (by as_aux_lemma => rw [HO1.out]; rfl) (fun K' hK => ?_)
  go_simp
  refine (rMul_q ((Q2.out.up (Up.refl w7).drew).iv SX.out) ((Q4.out.up (Up.refl w7).drew).iv SY.out) (by omega)).mono ?_
  rintro e w8 ⟨v8, rfl, hQ8, U8⟩
  obtain ⟨s8, A8, n8, c8, B8, m8, d8, rfl⟩ := hQ8.shape
  have HQ8 := Lib.hid hQ8
  have V8 : Up w7 w8 := Up.trans (Up.refl w7).drew U8
  have kk8 := HE.out _ V8
  clear hQ8
  go_wp2_with fail
  refine hK.out _ _ kk8 (fun _ => ?_)
  clear hK K'
  try simp only [Act.put, List.setIfInBounds_toArray, List.set_cons_zero, List.set_cons_succ]
  refine wpSched_call (i := 15) (by as_aux_lemma => rw [HO1.out]; simp only [List.getElem?_toArray, List.getElem?_cons_succ, List.getElem?_cons_zero]; rfl) (by as_aux_lemma => rw [HO1.out]; rfl) (fun K' hK => ?_)
  go_simp
  have HS := Lib.hid (sameRat_q (Q6.out.up V8) HQ8.out SS.out SM.out)
  rw [decide_eq_true rfl] at HS
  refine HS.out.mono ?_
  rintro e w9 ⟨rfl, u9⟩
  have V9 := V8.trans u9
  have kk9 := HE.out _ V9
  go_wp2_with fail
  refine hK.out _ _ kk9 (fun _ => ?_)
  clear hK K'
  try simp only [Act.put, List.setIfInBounds_toArray, List.set_cons_zero, List.set_cons_succ]
  refine wpSched_take (i := 16) (v := ?v1x15) (by as_aux_lemma => rw [HO1.out]; simp only [List.getElem?_toArray, List.getElem?_cons_succ, List.getElem?_cons_zero]; rfl) (Or.inl ⟨(by rfl), ?y1x15⟩) ?r1x15
  case y1x15 => as_aux_lemma => intro wx hSx; (try dsimp only at hSx); go_simp; try with_reducible rfl
  try simp only [Act.put, List.setIfInBounds_toArray, List.set_cons_zero, List.set_cons_succ]
  refine wpSched_take (i := 17) (v := ?v1x16) (by as_aux_lemma => rw [HO1.out]; simp only [List.getElem?_toArray, List.getElem?_cons_succ, List.getElem?_cons_zero]; rfl) (Or.inl ⟨(by rfl), ?y1x16⟩) ?r1x16
  case y1x16 => as_aux_lemma => intro wx hSx; (try dsimp only at hSx); go_simp; try with_reducible rfl
  try simp only [Act.put, List.setIfInBounds_toArray, List.set_cons_zero, List.set_cons_succ]
  refine wpSched_call (i := 18) (by as_aux_lemma => rw [HO1.out]; simp only [List.getElem?_toArray, List.getElem?_cons_succ, List.getElem?_cons_zero]; rfl) (by as_aux_lemma => rw [HO1.out]; rfl) (fun K' hK => ?_)
  go_simp
  refine (awake02_any _).mono ?_
  rintro e w10 ⟨rfl, u10⟩
  have V10 := V9.trans u10
  have kk10 := HE.out _ V10
  go_wp2_with fail
  refine hK.out _ _ kk10 (fun _ => ?_)
  clear hK K'
  try simp only [Act.put, List.setIfInBounds_toArray, List.set_cons_zero, List.set_cons_succ]
  refine wpSched_take (i := 19) (v := ?v1x17) (by as_aux_lemma => rw [HO1.out]; simp only [List.getElem?_toArray, List.getElem?_cons_succ, List.getElem?_cons_zero]; rfl) (Or.inl ⟨(by rfl), ?y1x17⟩) ?r1x17
  case y1x17 => as_aux_lemma => intro wx hSx; (try dsimp only at hSx); go_simp; try with_reducible rfl
  try simp only [Act.put, List.setIfInBounds_toArray, List.set_cons_zero, List.set_cons_succ]
  refine wpSched_take (i := 20) (v := ?v1x18) (by as_aux_lemma => rw [HO1.out]; simp only [List.getElem?_toArray, List.getElem?_cons_succ, List.getElem?_cons_zero]; rfl) (Or.inl ⟨(by rfl), ?y1x18⟩) ?r1x18
  case y1x18 => as_aux_lemma => intro wx hSx; (try dsimp only at hSx); go_simp; try with_reducible rfl
  try simp only [Act.put, List.setIfInBounds_toArray, List.set_cons_zero, List.set_cons_succ]
  refine wpSched_end (NoPanic.normal ?_)
  clear HO1 O1
  go_wp2_with fail
  go_ret
  exact ⟨rfl, U.trans V10⟩
end Go.Proofs.Ytiiebgfjdkkdeaa
