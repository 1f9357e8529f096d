/-
  MetricCosts: for every metric, step and number the law returns true. Conditions: none.
-/
import Derived.Test.YtnaeabkknmoaeaaMKeep
import Derived.Test.YtnaeabkknmoaeaaMRefCost
import Derived.Test.YtnaeabkknmoaeaaFrameKit
namespace Go.Proofs.Ytnaeabkknmoaeaa
open Go.RowKit

theorem SM.one {w : World} {g : Nat} {Bd : Nat} (m : MS) (h : Blk w g 28 #[m.va, m.vb]) (hg : g < Bd) : SM w Bd (some ⟨g, 0, none⟩) [m] := fun _ =>
  ⟨⟨g, 0, none⟩, rfl, hg, fun j hj => by
    obtain rfl : j = 0 := by simp at hj; exact hj
    have h0 := h.cell 0
    have h1 := h.cell 1
    simp at h0 h1
    simp [Addr.add, h0, h1]⟩
theorem metricsB_one {m : MS} (h : small m = true) : metricsB [m] 1 = true := by simp [metricsB, h]
theorem metricsB_one' {m : MS} (h : small m = false) : metricsB [m] 1 = false := by simp [metricsB, h]

set_option maxHeartbeats 1600000 in
theorem MetricCosts_walk (A : Option Addr) (c : Nat) (B : Option Addr) (d : Nat) (b f : List Int) (step n : Int) (w : World) (hb : SI w w.heap.size .i64 A b) (hf : SI w w.heap.size .i64 B f)
    (hm : b.length ≤ 9223372036854775807) (hm' : f.length ≤ 9223372036854775807) (_ : (Lit.int .i64 step).wf = true) (_ : (Lit.int .i64 n).wf = true) :
    Calls Try.prog 5 #[.agg #[.slice A b.length c, .slice B f.length d], .int .i64 step, .int .i64 n] w fun e w' => e = .returned (.bool true) ∧ Up w w' := by
  have M : ∀ W : World, Blk W (w.heap.size + 1) 28 #[.slice A b.length c, .slice B f.length d] → Calls Try.prog 14 #[.slice (some ⟨w.heap.size + 1, 0, none⟩) 1 1, .int .i64 1] W fun e w' => e = .returned (.bool (metricsB [⟨A, b, c, B, f, d⟩] 1)) ∧ W = w' := fun W hW =>
    metrics_any (some ⟨w.heap.size + 1, 0, none⟩) 1 [⟨A, b, c, B, f, d⟩] 1 (w.heap.size + 2) W (SM.one _ hW (by omega)) (by simp) (by omega) (by simp; omega)
  cases hs : small ⟨A, b, c, B, f, d⟩ with
  | false =>
    rw [metricsB_one' hs] at M
    have HM := Lib.hid M
    clear M hs
    go_enter Try.func5, Try.ntmps5
    go_wp2_with fail
    refine (HM.out _ (by exact Blk.new' (w.alloc _) 28 _ (by simp))).mono ?_
    rintro e w1 ⟨rfl, rfl⟩
    go_wp2_with fail
    go_ret
    exact ⟨rfl, ((Below.refl _ _).alloc (Nat.le_refl _) _).alloc (by simp) _⟩
  | true =>
    rw [metricsB_one hs] at M
    have HM := Lib.hid M
    clear M hs
    obtain ⟨q, hq⟩ : ∃ q, q = costV b f step n := ⟨_, rfl⟩
    have V1 := fun (W : World) (hU : Up w W) => cost_any A c B d b f step n W (hb.up hU) (hf.up hU) hm hm'
    have V2 := fun (W : World) (hU : Up w W) => refCost_any A c B d b f step n W (hb.up hU) (hf.up hU) hm hm'
    rw [← hq] at V1 V2
    have HV1 := Lib.hid V1
    have HV2 := Lib.hid V2
    clear V1 V2 hq
    go_enter Try.func5, Try.ntmps5
    go_wp2_with fail
    refine (HM.out _ (by exact Blk.new' (w.alloc _) 28 _ (by simp))).mono ?_
    rintro e w1 ⟨rfl, rfl⟩
    obtain ⟨w1, hw1⟩ : ∃ w1, w1 = (w.alloc (Obj.cells #[Value.slice A b.length c, Value.slice B f.length d] 28)).alloc (Obj.cells #[Value.slice A b.length c, Value.slice B f.length d] 28) := ⟨_, rfl⟩
    have U1 : Up w w1 := by rw [hw1]; exact ((Below.refl _ _).alloc (Nat.le_refl _) _).alloc (by simp) _
    have b1 : Blk w1 w.heap.size 28 #[Value.slice A b.length c, Value.slice B f.length d] := by rw [hw1]; exact (Blk.new w _ _).alloc _
    rw [← hw1]
    clear hw1
    have s0 : w1.cell? ⟨w.heap.size, 0, none⟩ = some (Value.slice A b.length c) ∧ w1.cell? ⟨w.heap.size, 1, none⟩ = some (Value.slice B f.length d) := by
      have c0 := b1.cell 0; have c1 := b1.cell 1; simp at c0 c1; exact ⟨c0, c1⟩
    have z1 := b1.lt
    go_wp2_with fail
    go_region_held3 (fun wx => wx.cell? ⟨w.heap.size, 0, none⟩ = some (Value.slice A b.length c) ∧ wx.cell? ⟨w.heap.size, 1, none⟩ = some (Value.slice B f.length d))
      (first | exact s0 | exact s2 | exact s3 | exact s4)
      (first
        | (go_at_call 18; refine (HV1.out _ (by exact U1.drew)).mono ?_; rintro e w2 ⟨rfl, hb2⟩; have U2 := Up.trans U1.drew hb2; have b2 := Blk.up (w := w1.drew) b1 hb2; have s2 : w2.cell? ⟨w.heap.size, 0, none⟩ = some (Value.slice A b.length c) ∧ w2.cell? ⟨w.heap.size, 1, none⟩ = some (Value.slice B f.length d) := (by have c0 := b2.cell 0; have c1 := b2.cell 1; simp at c0 c1; exact ⟨c0, c1⟩))
        | (go_at_call 19; refine (HV2.out _ (by exact U2)).mono ?_; rintro e w3 ⟨rfl, hb3⟩; have U3 := Up.trans U2 hb3; have b3 := Blk.up b2 hb3; have s3 : w3.cell? ⟨w.heap.size, 0, none⟩ = some (Value.slice A b.length c) ∧ w3.cell? ⟨w.heap.size, 1, none⟩ = some (Value.slice B f.length d) := (by have c0 := b3.cell 0; have c1 := b3.cell 1; simp at c0 c1; exact ⟨c0, c1⟩))
        | (go_at_call 17; refine (awake_any _).mono ?_; rintro e w4 ⟨rfl, hb4⟩; have U4 := Up.trans U3 hb4; have b4 := Blk.up b3 hb4; have s4 : w4.cell? ⟨w.heap.size, 0, none⟩ = some (Value.slice A b.length c) ∧ w4.cell? ⟨w.heap.size, 1, none⟩ = some (Value.slice B f.length d) := (by have c0 := b4.cell 0; have c1 := b4.cell 1; simp at c0 c1; exact ⟨c0, c1⟩)))
    all_goals
      go_wp2_with fail
      go_ret
      exact ⟨rfl, U4⟩

open Go.ChangeShapes Go.WideShapes Go.ChangeAt Go.Joins
open Go.ChangeMaps (open_string shut_string)
set_option maxRecDepth 100000 in
theorem MetricCosts.lifted (os : Os) (started : os.Started) (H : Type) (enc : TypeId × Value → H) :
    ReturnsInHanded {} Try.checked os 5 .any (Rows.metricCostsSpec.pre6 enc Try.prog Try.f5 Rows.metricCostsRow.domain false) (Rows.metricCostsSpec.post enc Try.prog Try.f5 false true false false) := by
  refine returnsInHanded_of_change (C := Try.checked) own started (by kernel_rfl) Try.func5
    (ChangeSpec.witness6 (enc := enc) (C := Try.checked) false ⟨#[], #[.agg #[.slice none 0 0, .slice none 0 0], .int .i64 0, .int .i64 0], []⟩ 8 (by kernel_rfl) (by kernel_rfl) (by kernel_rfl) (by kernel_rfl)) ?_
  intro W base args ds gs before hval0 hW hcnd _
  have hval : ∀ (j : Nat) t v, Try.f5.params[j]? = some t → args[j]? = some v → Value.okWide Try.prog W .any base t v := hval0
  have hW' := hW
  obtain ⟨p, q, hA0, hV, rfl, hfz, hnd⟩ := hW
  have hA : DataW.TrodAll enc Try.prog W 0 (fun _ => true) true Try.f5.params.toList args.toList ds p := hA0
  rw [Try.params5] at hA hval
  obtain ⟨v0, vs0, d0, ds0, p0, q0, hargs, rfl, rfl, h0, r0⟩ := trodAll_cons hA
  obtain ⟨v1, vs1, d1, ds1, p1, q1, rfl, rfl, rfl, h1, r1⟩ := trodAll_cons r0
  obtain ⟨v2, vs2, d2, ds2, p2, q2, rfl, rfl, rfl, h2, r2⟩ := trodAll_cons r1
  obtain ⟨rfl, rfl, rfl⟩ := trodAll_nil r2
  obtain rfl : args = #[v0, v1, v2] := by cases args; simp_all
  obtain ⟨rfl, rfl⟩ := trodVars_none hV
  have k0 := h0
  have lt0 : ∀ x ∈ p0, x.block < W.heap.size := by obtain ⟨m, hm⟩ := k0; exact DataW.trod_lt m _ _ _ hm
  have k1 := h1
  have lt1 : ∀ x ∈ p1, x.block < W.heap.size := by obtain ⟨m, hm⟩ := k1; exact DataW.trod_lt m _ _ _ hm
  have k2 := h2
  have lt2 : ∀ x ∈ p2, x.block < W.heap.size := by obtain ⟨m, hm⟩ := k2; exact DataW.trod_lt m _ _ _ hm
  obtain ⟨c0, e0, y0, z0, m0, hv0, _, _, hy0, hz0⟩ := open_agg2 Try.underlying28 (by kernel_rfl) (by kernel_rfl) (hval 0 28 v0 rfl rfl) h0
  obtain ⟨A0, ca0, b0, rfl, sA0, la0, ma0, _⟩ := ints_in Try.underlying22 Try.underlying2 (by kernel_rfl) hy0
  obtain ⟨B0, cb0, f0, rfl, sB0, lb0, mb0, _⟩ := ints_in Try.underlying22 Try.underlying2 (by kernel_rfl) hz0
  obtain ⟨x1, rfl, rfl, rfl, wx1⟩ := open_int Try.underlying3 (hval 1 3 v1 rfl rfl) h1
  obtain ⟨x2, rfl, rfl, rfl, wx2⟩ := open_int Try.underlying2 (hval 2 2 v2 rfl rfl) h2
  subst hv0
  clear hA0 hval0
  refine (MetricCosts_walk A0 ca0 B0 cb0 b0 f0 x1 x2 W sA0 sB0 (by omega) (by omega) wx1 wx2).mono fun e W' ⟨he, bel⟩ => ?_
  subst he
  exact ⟨_, rfl, _, _, _, [], _, [], hW', trodAll_mk1 (shut_bool Try.underlying4 _), (trodAll_cons_mk (Below.trod laidOut (by kernel_rfl) (of_decide_eq_true (by kernel_rfl)) k0 bel lt0) (trodAll_cons_mk (Below.trod laidOut (by kernel_rfl) (of_decide_eq_true (by kernel_rfl)) k1 bel lt1) (trodAll_cons_mk (Below.trod laidOut (by kernel_rfl) (of_decide_eq_true (by kernel_rfl)) k2 bel lt2) trodAll_mk0))), rfl, bel.frame _, fun h => by cases h⟩

theorem MetricCosts.over : Rows.metricCostsRow.holds Try.pinned (OpenSpec.ofChange Rows.metricCostsSpec) :=
  OpenClaim.holds_of_wide 5 Try.f5 rfl rfl rfl rfl rfl rfl rfl ⟨rfl, rfl, rfl, rfl, rfl⟩ rfl rfl rfl rfl rfl (by kernel_rfl) Try.func5 (by kernel_rfl)
    (of_decide_eq_true (by kernel_rfl)) (by unfold Func.isWrapper; first | (rw [if_pos (by decide +kernel)]; kernel_rfl) | (rw [if_neg (by decide +kernel)]; exact ⟨rfl, rfl⟩))
    (fun os started H enc _ => MetricCosts.lifted os started H enc)

theorem MetricCosts_holds : Rows.MetricCostsSaid := MetricCosts.over
end Go.Proofs.Ytnaeabkknmoaeaa
