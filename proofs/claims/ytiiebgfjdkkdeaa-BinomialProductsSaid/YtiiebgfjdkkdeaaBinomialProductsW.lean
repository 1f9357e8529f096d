/-
  BinomialProducts: for every two integers the law returns true. Conditions: none.
-/
import Derived.Test.YtiiebgfjdkkdeaaLProdR
import Derived.Test.YtiiebgfjdkkdeaaLSame
import Derived.Test.YtiiebgfjdkkdeaaBAwake
namespace Go.Proofs.Ytiiebgfjdkkdeaa
open Go.RowKit

theorem prodV_mem (a b : Int) : ∀ q ∈ prodV a b, qs q ≤ 780 := fun q hq => by
  unfold prodV at hq
  split at hq
  · simp only [rowQ, List.mem_map, List.mem_range] at hq
    obtain ⟨k, hk, rfl⟩ := hq
    exact qs_pc _ _ _ (by omega) (by omega) (by omega)
  · simp at hq
theorem prodV_len (a b : Int) : (prodV a b).length ≤ 1000 := by
  unfold prodV
  split
  · rw [rowQ_len]; omega
  · simp

set_option maxRecDepth 100000 in
set_option maxHeartbeats 6400000 in
theorem BinomialProducts_walk (a b : Int) (w : World) (ha : (Lit.int .i64 a).wf = true) (hb : (Lit.int .i64 b).wf = true) :
    Calls Try.prog 5 #[.int .i64 a, .int .i64 b] w fun e w' => e = .returned (.bool true) ∧ Up w w' := by
  have HP1 := Lib.hid (fun wx => product_q a b (w := wx))
  have HP2 := Lib.hid (fun wx => rProduct_q a b (w := wx))
  have HM := Lib.hid (prodV_mem a b)
  have HL := Lib.hid (prodV_len a b)
  obtain ⟨l, hl⟩ : ∃ l, l = prodV a b := ⟨_, rfl⟩
  obtain ⟨t, ht⟩ : ∃ t, t = prodB a b := ⟨_, rfl⟩
  rw [← hl] at HP1 HP2 HM HL
  rw [← ht] at HP1 HP2
  clear hl ht ha hb
  go_enter Try.func5, Try.ntmps5
  have U : Up w w := Up.refl w
  go_wp2_with fail
  refine (HP1.out _).mono ?_
  rintro e w1 ⟨A1, c1, rfl, h1, h2, h3, u1⟩
  have L1 := Lib.hid h3
  have H1 := Lib.hid (And.intro h1 h2)
  clear h1 h2 h3
  have ux : Up w w1 := u1
  replace U := Up.trans U ux
  clear ux
  go_wp2_with fail
  refine (HP2.out _).mono ?_
  rintro e w2 ⟨A2, c2, rfl, h1, h2, h3, u2⟩
  have L2 := Lib.hid h3
  have H2 := Lib.hid (And.intro h1 h2)
  clear h1 h2 h3
  have ux : Up w1 w2 := u2
  replace U := Up.trans U ux
  replace L1 := Lib.hid (L1.out.up ux)
  clear ux
  go_wp2_with fail
  have HS := Lib.hid (sameRats_q (cap := c1) (cap' := c2) L1.out L2.out HM.out HM.out (by omega) HL.out HL.out)
  rw [decide_eq_true rfl] at HS
  refine (HS.out).mono ?_
  rintro e w3 ⟨rfl, u3⟩
  have ux : Up w2 w3 := u3
  replace U := Up.trans U ux
  replace L1 := Lib.hid (L1.out.up ux)
  replace L2 := Lib.hid (L2.out.up ux)
  clear ux
  go_wp2_with fail
  refine (awake02_any _).mono ?_
  rintro e w4 ⟨rfl, u4⟩
  have ux : Up w3 w4 := u4
  replace U := Up.trans U ux
  clear ux
  go_wp2_with fail
  go_ret
  exact ⟨rfl, U⟩
end Go.Proofs.Ytiiebgfjdkkdeaa
