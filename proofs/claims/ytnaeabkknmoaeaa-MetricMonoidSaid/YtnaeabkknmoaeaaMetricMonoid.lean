/-
  MetricMonoid: for all three meters the law returns true. Conditions: none.
-/
import Derived.Test.YtnaeabkknmoaeaaMFold
import Derived.Test.YtnaeabkknmoaeaaMList
import Derived.Test.YtnaeabkknmoaeaaFrameKit
namespace Go.Proofs.Ytnaeabkknmoaeaa
open Go.RowKit

def nearB (a p : Int) : Bool := decide (-288230376151711744 ≤ a) && decide (a ≤ p) && decide (0 ≤ p) && decide (p ≤ 288230376151711744)
theorem nearB_of {a p : Int} (h : nearB a p = true) : -288230376151711744 ≤ a ∧ a ≤ p ∧ 0 ≤ p ∧ p ≤ 288230376151711744 := by
  simp [nearB] at h; omega

set_option maxHeartbeats 1600000 in
theorem near_any (a p : Int) (w : World) : Calls Try.prog 20 #[.agg #[.int .i64 a, .int .i64 p]] w fun e w' => e = .returned (.bool (nearB a p)) ∧ Up w w' := by
  obtain ⟨q, hq⟩ : ∃ q, q = nearB a p := ⟨_, rfl⟩
  have HQ := Lib.hid hq
  rw [← hq]
  clear hq
  go_enter Try.func20, Try.ntmps20
  go_wp2
  all_goals
    go_ret
    refine ⟨ret_bool ?_, ?_⟩
    · rw [HQ.out]; simp [nearB] at *; omega
    · (repeat' (first | exact Below.refl _ _ | apply Below.alloc | apply Below.setCell | apply Below.drew)) <;> (simp <;> omega)

theorem Blk.meter {w : World} {g : Nat} {a p : Int} (h : Blk w g 24 #[.int .i64 a, .int .i64 p]) : w.cell? ⟨g, 0, none⟩ = some (.int .i64 a) ∧ w.cell? ⟨g, 1, none⟩ = some (.int .i64 p) := by
  have c0 := h.cell 0
  have c1 := h.cell 1
  simp at c0 c1
  exact ⟨c0, c1⟩

set_option maxHeartbeats 6400000 in
theorem MetricMonoid_walk (a p b q c r : Int) (w : World) (_ : (Lit.int .i64 a).wf = true) (_ : (Lit.int .i64 p).wf = true) (_ : (Lit.int .i64 b).wf = true) (_ : (Lit.int .i64 q).wf = true) (_ : (Lit.int .i64 c).wf = true) (_ : (Lit.int .i64 r).wf = true) :
    Calls Try.prog 6 #[.agg #[.int .i64 a, .int .i64 p], .agg #[.int .i64 b, .int .i64 q], .agg #[.int .i64 c, .int .i64 r]] w fun e w' => e = .returned (.bool true) ∧ Up w w' := by
  have Na := near_any a p
  have Nb := near_any b q
  have Nc := near_any c r
  obtain ⟨w1, hw1⟩ : ∃ w1, w1 = ((w.alloc (Obj.cells #[Value.int .i64 a, Value.int .i64 p] 24)).alloc (Obj.cells #[Value.int .i64 b, Value.int .i64 q] 24)).alloc (Obj.cells #[Value.int .i64 c, Value.int .i64 r] 24) := ⟨_, rfl⟩
  have U1 : Up w w1 := by rw [hw1]; exact (((Below.refl _ _).alloc (Nat.le_refl _) _).alloc (by simp) _).alloc (by simp <;> omega) _
  have b1 : Blk w1 w.heap.size 24 #[Value.int .i64 a, Value.int .i64 p] := by rw [hw1]; exact ((Blk.new w _ _).alloc _).alloc _
  have b2 : Blk w1 (w.heap.size + 1) 24 #[Value.int .i64 b, Value.int .i64 q] := by rw [hw1]; exact (Blk.new' _ _ _ (by simp)).alloc _
  have b3 : Blk w1 (w.heap.size + 2) 24 #[Value.int .i64 c, Value.int .i64 r] := by rw [hw1]; exact Blk.new' _ _ _ (by simp)
  have s1 := b1.meter
  have s2 := b2.meter
  have s3 := b3.meter
  cases ha : nearB a p with
  | false =>
    rw [ha] at Na
    have HNa := Lib.hid Na
    clear Na Nb Nc ha
    go_enter Try.func6, Try.ntmps6
    go_wp2_with fail
    rw [← hw1]
    clear hw1
    refine (HNa.out _).mono ?_
    rintro e w2 ⟨rfl, hb2⟩
    have U2 := Up.trans U1 hb2
    go_wp2_with fail
    go_ret
    exact ⟨rfl, U2⟩
  | true =>
  rw [ha] at Na
  have HNa := Lib.hid Na
  cases hb : nearB b q with
  | false =>
    rw [hb] at Nb
    have HNb := Lib.hid Nb
    clear Na Nb Nc ha hb
    go_enter Try.func6, Try.ntmps6
    go_wp2_with fail
    rw [← hw1]
    clear hw1
    refine (HNa.out _).mono ?_
    rintro e w2 ⟨rfl, hb2⟩
    have U2 := Up.trans U1 hb2
    have t2 := (b2.up hb2).meter
    go_wp2_with fail
    refine (HNb.out _).mono ?_
    rintro e w3 ⟨rfl, hb3⟩
    have U3 := Up.trans U2 hb3
    go_wp2_with fail
    go_ret
    exact ⟨rfl, U3⟩
  | true =>
  rw [hb] at Nb
  have HNb := Lib.hid Nb
  cases hc : nearB c r with
  | false =>
    rw [hc] at Nc
    have HNc := Lib.hid Nc
    clear Na Nb Nc ha hb hc
    go_enter Try.func6, Try.ntmps6
    go_wp2_with fail
    rw [← hw1]
    clear hw1
    refine (HNa.out _).mono ?_
    rintro e w2 ⟨rfl, hb2⟩
    have U2 := Up.trans U1 hb2
    have t2 := (b2.up hb2).meter
    have b3' := b3.up hb2
    go_wp2_with fail
    refine (HNb.out _).mono ?_
    rintro e w3 ⟨rfl, hb3⟩
    have U3 := Up.trans U2 hb3
    have t3 := (b3'.up hb3).meter
    go_wp2_with fail
    refine (HNc.out _).mono ?_
    rintro e w4 ⟨rfl, hb4⟩
    have U4 := Up.trans U3 hb4
    go_wp2_with fail
    go_ret
    exact ⟨rfl, U4⟩
  | true =>
    rw [hc] at Nc
    have HNc := Lib.hid Nc
    have na := nearB_of ha
    have nb := nearB_of hb
    have nc := nearB_of hc
    have HA := Lib.hid (show max (max p (a + q)) (a + b + r) = max p (a + max q (b + r)) from by omega)
    have HB := Lib.hid (show a + b + c = a + (b + c) from by omega)
    have HC := Lib.hid (show max p (a + 0) = p from by omega)
    have HD := Lib.hid (show max 0 (0 + p) = p from by omega)
    clear Na Nb Nc ha hb hc
    go_enter Try.func6, Try.ntmps6
    go_wp2_with fail
    rw [← hw1]
    clear hw1
    refine (HNa.out _).mono ?_
    rintro e w2 ⟨rfl, hb2⟩
    replace U1 := Up.trans U1 hb2
    replace b1 := b1.up hb2
    replace b2 := b2.up hb2
    replace b3 := b3.up hb2
    replace s1 := b1.meter
    replace s2 := b2.meter
    replace s3 := b3.meter
    go_wp2_with fail
    refine (HNb.out _).mono ?_
    rintro e w3 ⟨rfl, hb3⟩
    replace U1 := Up.trans U1 hb3
    replace b1 := b1.up hb3
    replace b2 := b2.up hb3
    replace b3 := b3.up hb3
    replace s1 := b1.meter
    replace s2 := b2.meter
    replace s3 := b3.meter
    go_wp2_with fail
    refine (HNc.out _).mono ?_
    rintro e w4 ⟨rfl, hb4⟩
    replace U1 := Up.trans U1 hb4
    replace b1 := b1.up hb4
    replace b2 := b2.up hb4
    replace b3 := b3.up hb4
    clear hb2 hb3 hb4 s1 s2 s3 HNa HNb HNc
    go_wp2_with fail
    obtain ⟨w5, hw5⟩ : ∃ w5, w5 = w4.alloc (Obj.cells #[Value.int .i64 0, Value.int .i64 0] 24) := ⟨_, rfl⟩
    obtain ⟨g, hg⟩ : ∃ g, g = w4.heap.size := ⟨_, rfl⟩
    have b4 : Blk w5 g 24 #[Value.int .i64 0, Value.int .i64 0] := by rw [hw5]; exact Blk.new' _ _ _ hg
    replace U1 : Up w w5 := by rw [hw5]; exact U1.alloc U1.size _
    replace b1 := b1.alloc (Obj.cells #[Value.int .i64 0, Value.int .i64 0] 24)
    rw [← hw5] at b1
    replace b2 := b2.alloc (Obj.cells #[Value.int .i64 0, Value.int .i64 0] 24)
    rw [← hw5] at b2
    replace b3 := b3.alloc (Obj.cells #[Value.int .i64 0, Value.int .i64 0] 24)
    rw [← hw5] at b3
    have s : ((((w5.cell? ⟨w.heap.size, 0, none⟩ = some (.int .i64 a) ∧ w5.cell? ⟨w.heap.size, 1, none⟩ = some (.int .i64 p)) ∧ (w5.cell? ⟨w.heap.size + 1, 0, none⟩ = some (.int .i64 b) ∧ w5.cell? ⟨w.heap.size + 1, 1, none⟩ = some (.int .i64 q))) ∧ (w5.cell? ⟨w.heap.size + 2, 0, none⟩ = some (.int .i64 c) ∧ w5.cell? ⟨w.heap.size + 2, 1, none⟩ = some (.int .i64 r))) ∧ (w5.cell? ⟨g, 0, none⟩ = some (.int .i64 0) ∧ w5.cell? ⟨g, 1, none⟩ = some (.int .i64 0))) := ⟨⟨⟨b1.meter, b2.meter⟩, b3.meter⟩, b4.meter⟩
    rw [← hw5, ← hg]
    clear hw5 hg
    have hU5 : Up w5 w5 := Up.refl _
    have ea := HA.out
    have eb := HB.out
    have ec : max p a = p := by omega
    have ed : max 0 p = p := by omega
    go_region_held3 (fun wx => ((((wx.cell? ⟨w.heap.size, 0, none⟩ = some (.int .i64 a) ∧ wx.cell? ⟨w.heap.size, 1, none⟩ = some (.int .i64 p)) ∧ (wx.cell? ⟨w.heap.size + 1, 0, none⟩ = some (.int .i64 b) ∧ wx.cell? ⟨w.heap.size + 1, 1, none⟩ = some (.int .i64 q))) ∧ (wx.cell? ⟨w.heap.size + 2, 0, none⟩ = some (.int .i64 c) ∧ wx.cell? ⟨w.heap.size + 2, 1, none⟩ = some (.int .i64 r))) ∧ (wx.cell? ⟨g, 0, none⟩ = some (.int .i64 0) ∧ wx.cell? ⟨g, 1, none⟩ = some (.int .i64 0))))
      (first | exact s)
      (first
        | (go_at_call 21; refine (then_fit _ _ _ _ _ (by omega) (by omega) (by omega) (by omega) (by omega) (by omega) (by omega) (by omega)).mono ?_; rintro e wx ⟨rfl, hbx0⟩; have hbx : Up w5 wx := (by first | exact Up.trans hU5 hbx0 | exact Up.trans hU5.drew hbx0); replace hU5 := hbx; have s : ((((wx.cell? ⟨w.heap.size, 0, none⟩ = some (.int .i64 a) ∧ wx.cell? ⟨w.heap.size, 1, none⟩ = some (.int .i64 p)) ∧ (wx.cell? ⟨w.heap.size + 1, 0, none⟩ = some (.int .i64 b) ∧ wx.cell? ⟨w.heap.size + 1, 1, none⟩ = some (.int .i64 q))) ∧ (wx.cell? ⟨w.heap.size + 2, 0, none⟩ = some (.int .i64 c) ∧ wx.cell? ⟨w.heap.size + 2, 1, none⟩ = some (.int .i64 r))) ∧ (wx.cell? ⟨g, 0, none⟩ = some (.int .i64 0) ∧ wx.cell? ⟨g, 1, none⟩ = some (.int .i64 0))) := ⟨⟨⟨(b1.up hU5).meter, (b2.up hU5).meter⟩, (b3.up hU5).meter⟩, (b4.up hU5).meter⟩; clear hbx hbx0)
        | (go_at_call 17; refine (awake_any _).mono ?_; rintro e wx ⟨rfl, hbx0⟩; have hbx : Up w5 wx := (by first | exact Up.trans hU5 hbx0 | exact Up.trans hU5.drew hbx0); replace hU5 := hbx; have s : ((((wx.cell? ⟨w.heap.size, 0, none⟩ = some (.int .i64 a) ∧ wx.cell? ⟨w.heap.size, 1, none⟩ = some (.int .i64 p)) ∧ (wx.cell? ⟨w.heap.size + 1, 0, none⟩ = some (.int .i64 b) ∧ wx.cell? ⟨w.heap.size + 1, 1, none⟩ = some (.int .i64 q))) ∧ (wx.cell? ⟨w.heap.size + 2, 0, none⟩ = some (.int .i64 c) ∧ wx.cell? ⟨w.heap.size + 2, 1, none⟩ = some (.int .i64 r))) ∧ (wx.cell? ⟨g, 0, none⟩ = some (.int .i64 0) ∧ wx.cell? ⟨g, 1, none⟩ = some (.int .i64 0))) := ⟨⟨⟨(b1.up hU5).meter, (b2.up hU5).meter⟩, (b3.up hU5).meter⟩, (b4.up hU5).meter⟩; clear hbx hbx0))
    go_wp2_with fail
    go_ret
    exact ⟨rfl, Up.trans U1 hU5⟩

open Go.ChangeShapes Go.WideShapes Go.ChangeAt Go.Joins
open Go.ChangeMaps (open_string shut_string)
set_option maxRecDepth 100000 in
theorem MetricMonoid.lifted (os : Os) (started : os.Started) (H : Type) (enc : TypeId × Value → H) :
    ReturnsInHanded {} Try.checked os 6 .any (Rows.metricMonoidSpec.pre6 enc Try.prog Try.f6 Rows.metricMonoidRow.domain false) (Rows.metricMonoidSpec.post enc Try.prog Try.f6 false true false false) := by
  refine returnsInHanded_of_change (C := Try.checked) own started (by kernel_rfl) Try.func6
    (ChangeSpec.witness6 (enc := enc) (C := Try.checked) false ⟨#[], #[.agg #[.int .i64 0, .int .i64 0], .agg #[.int .i64 0, .int .i64 0], .agg #[.int .i64 0, .int .i64 0]], []⟩ 8 (by kernel_rfl) (by kernel_rfl) (by kernel_rfl) (by kernel_rfl)) ?_
  intro W base args ds gs before hval0 hW hcnd _
  have hval : ∀ (j : Nat) t v, Try.f6.params[j]? = some t → args[j]? = some v → Value.okWide Try.prog W .any base t v := hval0
  have hW' := hW
  obtain ⟨p, q, hA0, hV, rfl, hfz, hnd⟩ := hW
  have hA : DataW.TrodAll enc Try.prog W 0 (fun _ => true) true Try.f6.params.toList args.toList ds p := hA0
  rw [Try.params6] at hA hval
  obtain ⟨v0, vs0, d0, ds0, p0, q0, hargs, rfl, rfl, h0, r0⟩ := trodAll_cons hA
  obtain ⟨v1, vs1, d1, ds1, p1, q1, rfl, rfl, rfl, h1, r1⟩ := trodAll_cons r0
  obtain ⟨v2, vs2, d2, ds2, p2, q2, rfl, rfl, rfl, h2, r2⟩ := trodAll_cons r1
  obtain ⟨rfl, rfl, rfl⟩ := trodAll_nil r2
  obtain rfl : args = #[v0, v1, v2] := by cases args; simp_all
  obtain ⟨rfl, rfl⟩ := trodVars_none hV
  have k0 := h0
  have lt0 : ∀ x ∈ p0, x.block < W.heap.size := by obtain ⟨m, hm⟩ := k0; exact DataW.trod_lt m _ _ _ hm
  have k1 := h1
  have lt1 : ∀ x ∈ p1, x.block < W.heap.size := by obtain ⟨m, hm⟩ := k1; exact DataW.trod_lt m _ _ _ hm
  have k2 := h2
  have lt2 : ∀ x ∈ p2, x.block < W.heap.size := by obtain ⟨m, hm⟩ := k2; exact DataW.trod_lt m _ _ _ hm
  obtain ⟨c0, e0, y0, z0, m0, hv0, _, _, hy0, hz0⟩ := open_agg2 Try.underlying24 (by kernel_rfl) (by kernel_rfl) (hval 0 24 v0 rfl rfl) h0
  obtain ⟨a0, ea0, _, wa0⟩ := DataW.trod_int Try.underlying2 hy0
  obtain ⟨b0, eb0, _, wb0⟩ := DataW.trod_int Try.underlying2 hz0
  simp at ea0 eb0
  subst ea0 eb0
  obtain ⟨c1, e1, y1, z1, m1, hv1, _, _, hy1, hz1⟩ := open_agg2 Try.underlying24 (by kernel_rfl) (by kernel_rfl) (hval 1 24 v1 rfl rfl) h1
  obtain ⟨a1, ea1, _, wa1⟩ := DataW.trod_int Try.underlying2 hy1
  obtain ⟨b1, eb1, _, wb1⟩ := DataW.trod_int Try.underlying2 hz1
  simp at ea1 eb1
  subst ea1 eb1
  obtain ⟨c2, e2, y2, z2, m2, hv2, _, _, hy2, hz2⟩ := open_agg2 Try.underlying24 (by kernel_rfl) (by kernel_rfl) (hval 2 24 v2 rfl rfl) h2
  obtain ⟨a2, ea2, _, wa2⟩ := DataW.trod_int Try.underlying2 hy2
  obtain ⟨b2, eb2, _, wb2⟩ := DataW.trod_int Try.underlying2 hz2
  simp at ea2 eb2
  subst ea2 eb2
  subst hv0 hv1 hv2
  clear hA0 hval0
  refine (MetricMonoid_walk a0 b0 a1 b1 a2 b2 W wa0 wb0 wa1 wb1 wa2 wb2).mono fun e W' ⟨he, bel⟩ => ?_
  subst he
  exact ⟨_, rfl, _, _, _, [], _, [], hW', trodAll_mk1 (shut_bool Try.underlying4 _), (trodAll_cons_mk (Below.trod laidOut (by kernel_rfl) (of_decide_eq_true (by kernel_rfl)) k0 bel lt0) (trodAll_cons_mk (Below.trod laidOut (by kernel_rfl) (of_decide_eq_true (by kernel_rfl)) k1 bel lt1) (trodAll_cons_mk (Below.trod laidOut (by kernel_rfl) (of_decide_eq_true (by kernel_rfl)) k2 bel lt2) trodAll_mk0))), rfl, bel.frame _, fun h => by cases h⟩

theorem MetricMonoid.over : Rows.metricMonoidRow.holds Try.pinned (OpenSpec.ofChange Rows.metricMonoidSpec) :=
  OpenClaim.holds_of_wide 6 Try.f6 rfl rfl rfl rfl rfl rfl rfl ⟨rfl, rfl, rfl, rfl, rfl⟩ rfl rfl rfl rfl rfl (by kernel_rfl) Try.func6 (by kernel_rfl)
    (of_decide_eq_true (by kernel_rfl)) (by unfold Func.isWrapper; first | (rw [if_pos (by decide +kernel)]; kernel_rfl) | (rw [if_neg (by decide +kernel)]; exact ⟨rfl, rfl⟩))
    (fun os started H enc _ => MetricMonoid.lifted os started H enc)

theorem MetricMonoid_holds : Rows.MetricMonoidSaid := MetricMonoid.over
end Go.Proofs.Ytnaeabkknmoaeaa
