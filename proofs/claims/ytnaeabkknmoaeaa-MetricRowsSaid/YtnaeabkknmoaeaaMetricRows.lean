/-
  MetricRows: for all two lists of costs the law returns true. Conditions: none.
-/
import Derived.Test.YtnaeabkknmoaeaaMFold
import Derived.Test.YtnaeabkknmoaeaaMList
import Derived.Test.YtnaeabkknmoaeaaWords2
import Derived.Test.YtnaeabkknmoaeaaFrameKit
namespace Go.Proofs.Ytnaeabkknmoaeaa
open Go.RowKit

theorem tab22 : IntTab Try.prog 22 2 .i64 := by
  obtain ⟨i0, hi, hz0, hz1, hz2⟩ := info_parts Try.info2
  exact ⟨Try.underlying22, Try.underlying2, i0, hi, hz0, hz1, by omega⟩

set_option maxHeartbeats 6400000 in
theorem MetricRows_walk (A : Option Addr) (ca : Nat) (l : List Int) (B : Option Addr) (cb : Nat) (m : List Int) (w : World) (sA : SI w w.heap.size .i64 A l) (la : l.length ≤ ca) (ma : ca ≤ 9223372036854775807) (_ : ∀ n ∈ l, (Lit.int .i64 n).wf = true)
    (sB : SI w w.heap.size .i64 B m) (lb : m.length ≤ cb) (mb : cb ≤ 9223372036854775807) (_ : ∀ n ∈ m, (Lit.int .i64 n).wf = true) :
    Calls Try.prog 7 #[.slice A l.length ca, .slice B m.length cb] w fun e w' => e = .returned (.bool true) ∧ Up w w' := by
  by_cases h1 : 500 < l.length
  · have hd : decide (500 < (l.length : Int)) = true := by simp; omega
    go_enter Try.func7, Try.ntmps7
    go_wp2_with fail
    go_ret
    exact ⟨rfl, Up.refl _⟩
  by_cases h2 : 500 < m.length
  · have hd : decide (500 < (l.length : Int)) = false := by simp; omega
    have hd2 : decide (500 < (m.length : Int)) = true := by simp; omega
    go_enter Try.func7, Try.ntmps7
    go_wp2_with fail
    go_ret
    exact ⟨rfl, Up.refl _⟩
  have hd : decide (500 < (l.length : Int)) = false := by simp; omega
  have hd2 : decide (500 < (m.length : Int)) = false := by simp; omega
  have HA := Lib.hid sA
  have HB := Lib.hid sB
  clear sA sB
  go_enter Try.func7, Try.ntmps7
  go_wp2_with (first
    | (at_builtin; refine wpList_append_ints rfl (.const (.slice none 0 0)) (.tmp 15) 22 rfl w.heap.size 2 .i64 tab22 (.slice none 0 0) [] rfl OI.nil_ w.heap.size A ca l rfl HA.out (by simp; omega) (Nat.le_refl _) ?_; intro v1 w1 hA1; rw [List.nil_append] at hA1; have z1 := hA1.grown.size; have B1 : Below w.heap.size w w1 := hA1.below (Below.refl _ _) OI.nil_ (Nat.le_refl _))
    | (at_builtin; refine wpList_append_ints rfl (.tmp 16) (.tmp 17) 22 rfl w.heap.size 2 .i64 tab22 v1 l rfl hA1.own w.heap.size B cb m rfl (HB.out.below B1) (by omega) z1 ?_; intro v2 w2 hA2; obtain ⟨L, hL⟩ : ∃ L, L = l ++ m := ⟨_, rfl⟩; rw [← hL] at hA2; have HL := Lib.hid hL; clear hL; have z2 := hA2.grown.size; have B2 : Below w.heap.size w w2 := hA2.below B1 hA1.own z1; obtain ⟨A2, c2, hv2, hc2, hm2, sA2, hO2⟩ := hA2.own.form; rw [hv2]))
  have HS2 := Lib.hid sA2
  have hLl : L.length ≤ 1000 := by rw [HL.out]; simp; omega
  clear sA2
  go_loop [20] (fun i => ∃ k : Nat, k ≤ L.length ∧ i = .int .i64 k ∧ (∀ c ∈ L.take k, okc c = true)) (fun i => L.length - (intOf i).toNat)
  case atStart => exact ⟨0, Nat.zero_le _, rfl, by simp⟩
  case round =>
    obtain ⟨k, hk, rfl, hok⟩ := hrel
    by_cases hlt : k < L.length
    · obtain ⟨ad, rfl, had, hcell⟩ := HS2.out.at_ hlt
      have hok1 := okc_step hlt hok
      obtain ⟨z, hz⟩ : ∃ z, z = L[k] := ⟨_, rfl⟩
      rw [← hz] at hcell hok1
      have HO := Lib.hid hok1
      clear hz hok1 hok
      go_wp2_with fail
      all_goals first
        | (go_ret; exact ⟨rfl, B2⟩)
        | (go_round
           case rel => exact ⟨k + 1, by omega, by go_num, HO.out (by simp [okc]; omega)⟩
           case measure => simp [intOf]; omega)
    · have hk' : k = L.length := by omega
      rw [hk', List.take_length] at hok
      have HO := Lib.hid hok
      clear hok hk'
      go_wp2_with (first
        | (at_builtin; refine wpList_append_ints rfl (.const (.slice none 0 0)) (.tmp 31) 22 rfl w.heap.size 2 .i64 tab22 (.slice none 0 0) [] rfl OI.nil_ w.heap.size A ca l rfl (HA.out.below B2) (by simp; omega) B2.size ?_; intro v3 w3 hA3; rw [List.nil_append] at hA3; have z3 := hA3.grown.size; have B3 : Below w.heap.size w w3 := hA3.below B2 OI.nil_ B2.size)
        | (at_builtin; refine wpList_append_ints rfl (.tmp 32) (.tmp 33) 22 rfl w.heap.size 2 .i64 tab22 v3 l rfl hA3.own w.heap.size B cb m rfl (HB.out.below B3) (by omega) B3.size ?_; intro v4 w4 hA4; rw [← HL.out] at hA4; have z4 := hA4.grown.size; have B4 : Below w.heap.size w w4 := hA4.below B3 hA3.own B3.size; obtain ⟨A4, c4, hv4, hc4, hm4, sA4, hO4⟩ := hA4.own.form; rw [hv4]))
      have hLok := HO.out
      have e0 := foldV_mfold hLok
      have el := foldV_mfold (l := l) (fun c hc => hLok c (by rw [HL.out]; simp [hc]))
      have em := foldV_mfold (l := m) (fun c hc => hLok c (by rw [HL.out]; simp [hc]))
      have bl := mfold_ok (l := l) (by omega) (fun c hc => hLok c (by rw [HL.out]; simp [hc]))
      have bm := mfold_ok (l := m) (by omega) (fun c hc => hLok c (by rw [HL.out]; simp [hc]))
      have eL := mfold_append l m
      rw [← HL.out] at eL
      rw [← el] at bl
      rw [← em] at bm
      rw [← el, ← em, ← e0] at eL
      have F1 := fun W hW => fold_any A ca l W hW (by omega)
      have F2 := fun W hW => fold_any B cb m W hW (by omega)
      have F3 := fun W hW => fold_any A4 c4 L W hW (by omega)
      rw [eL] at F3
      generalize foldV l = s at F1 F3 bl
      generalize foldV m = s' at F2 F3 bm
      obtain ⟨N1, P1⟩ := s
      obtain ⟨N2, P2⟩ := s'
      simp only at F1 F2 F3 bl bm
      have H1 := Lib.hid F1
      have H2 := Lib.hid F2
      have H3 := Lib.hid F3
      have HS4 := Lib.hid sA4
      clear e0 el em eL hLok F1 F2 F3 sA4 HS2
      refine (H3.out _ HS4.out).mono ?_
      rintro e w5 ⟨rfl, hb5⟩
      have U5 := below_up B4 hb5 B4.size
      go_wp2_with fail
      refine (H1.out _ ((HA.out.below U5).more U5.size)).mono ?_
      rintro e w6 ⟨rfl, hb6⟩
      have U6 := below_up U5 hb6 U5.size
      go_wp2_with fail
      refine (H2.out _ ((HB.out.below U6).more U6.size)).mono ?_
      rintro e w7 ⟨rfl, hb7⟩
      have U7 := below_up U6 hb7 U6.size
      go_wp2_with fail
      refine (then_fit N1 P1 N2 P2 _ (by omega) (by omega) (by omega) (by omega) (by omega) (by omega) (by omega) (by omega)).mono ?_
      rintro e w8 ⟨rfl, hb8⟩
      have U8 := below_up U7 hb8 U7.size
      go_wp2_with fail
      refine (awake_any _).mono ?_
      rintro e w9 ⟨rfl, hb9⟩
      have U9 := below_up U8 hb9 U8.size
      go_wp2_with fail
      go_ret
      exact ⟨rfl, U9⟩

open Go.ChangeShapes Go.WideShapes Go.ChangeAt Go.Joins
open Go.ChangeMaps (open_string shut_string)
set_option maxRecDepth 100000 in
theorem MetricRows.lifted (os : Os) (started : os.Started) (H : Type) (enc : TypeId × Value → H) :
    ReturnsInHanded {} Try.checked os 7 .any (Rows.metricRowsSpec.pre6 enc Try.prog Try.f7 Rows.metricRowsRow.domain false) (Rows.metricRowsSpec.post enc Try.prog Try.f7 false true false false) := by
  refine returnsInHanded_of_change (C := Try.checked) own started (by kernel_rfl) Try.func7
    (ChangeSpec.witness6 (enc := enc) (C := Try.checked) false ⟨#[], #[.slice none 0 0, .slice none 0 0], []⟩ 8 (by kernel_rfl) (by kernel_rfl) (by kernel_rfl) (by kernel_rfl)) ?_
  intro W base args ds gs before hval0 hW hcnd _
  have hval : ∀ (j : Nat) t v, Try.f7.params[j]? = some t → args[j]? = some v → Value.okWide Try.prog W .any base t v := hval0
  have hW' := hW
  obtain ⟨p, q, hA0, hV, rfl, hfz, hnd⟩ := hW
  have hA : DataW.TrodAll enc Try.prog W 0 (fun _ => true) true Try.f7.params.toList args.toList ds p := hA0
  rw [Try.params7] at hA hval
  obtain ⟨v0, vs0, d0, ds0, p0, q0, hargs, rfl, rfl, h0, r0⟩ := trodAll_cons hA
  obtain ⟨v1, vs1, d1, ds1, p1, q1, rfl, rfl, rfl, h1, r1⟩ := trodAll_cons r0
  obtain ⟨rfl, rfl, rfl⟩ := trodAll_nil r1
  obtain rfl : args = #[v0, v1] := by cases args; simp_all
  obtain ⟨rfl, rfl⟩ := trodVars_none hV
  have k0 := h0
  have lt0 : ∀ x ∈ p0, x.block < W.heap.size := by obtain ⟨m, hm⟩ := k0; exact DataW.trod_lt m _ _ _ hm
  have k1 := h1
  have lt1 : ∀ x ∈ p1, x.block < W.heap.size := by obtain ⟨m, hm⟩ := k1; exact DataW.trod_lt m _ _ _ hm
  obtain ⟨A0, ca0, b0, hv0, sA0, la0, ma0, wa0⟩ := ints_arg Try.underlying22 Try.underlying2 (by kernel_rfl) (hval 0 22 v0 rfl rfl) h0
  obtain ⟨A1, ca1, b1, hv1, sA1, la1, ma1, wa1⟩ := ints_arg Try.underlying22 Try.underlying2 (by kernel_rfl) (hval 1 22 v1 rfl rfl) h1
  subst hv0 hv1
  clear hA0 hval0
  refine (MetricRows_walk A0 ca0 b0 A1 ca1 b1 W sA0 la0 ma0 wa0 sA1 la1 ma1 wa1).mono fun e W' ⟨he, bel⟩ => ?_
  subst he
  exact ⟨_, rfl, _, _, _, [], _, [], hW', trodAll_mk1 (shut_bool Try.underlying4 _), (trodAll_cons_mk (Below.trod laidOut (by kernel_rfl) (of_decide_eq_true (by kernel_rfl)) k0 bel lt0) (trodAll_cons_mk (Below.trod laidOut (by kernel_rfl) (of_decide_eq_true (by kernel_rfl)) k1 bel lt1) trodAll_mk0)), rfl, bel.frame _, fun h => by cases h⟩

theorem MetricRows.over : Rows.metricRowsRow.holds Try.pinned (OpenSpec.ofChange Rows.metricRowsSpec) :=
  OpenClaim.holds_of_wide 7 Try.f7 rfl rfl rfl rfl rfl rfl rfl ⟨rfl, rfl, rfl, rfl, rfl⟩ rfl rfl rfl rfl rfl (by kernel_rfl) Try.func7 (by kernel_rfl)
    (of_decide_eq_true (by kernel_rfl)) (by unfold Func.isWrapper; first | (rw [if_pos (by decide +kernel)]; kernel_rfl) | (rw [if_neg (by decide +kernel)]; exact ⟨rfl, rfl⟩))
    (fun os started H enc _ => MetricRows.lifted os started H enc)

theorem MetricRows_holds : Rows.MetricRowsSaid := MetricRows.over
end Go.Proofs.Ytnaeabkknmoaeaa
