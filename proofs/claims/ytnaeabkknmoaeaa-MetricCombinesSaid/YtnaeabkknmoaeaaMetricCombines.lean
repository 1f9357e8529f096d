/-
  MetricCombines: for every list of metrics and of weights the law returns true. Conditions: none.
-/
import Derived.Test.YtnaeabkknmoaeaaMSame
import Derived.Test.YtnaeabkknmoaeaaMRefComb
namespace Go.Proofs.Ytnaeabkknmoaeaa
open Go.RowKit

theorem wlist_len (ws : List Int) (bs : List (List Int)) (k : Nat) : (wlist ws bs k).length = 26 := by simp [wlist]
theorem combV_lens (ms : List (List Int × List Int)) (ws : List Int) : (combV ms ws).1.1.length ≤ 26 ∧ (combV ms ws).1.2.length ≤ 26 := by
  unfold combV
  dsimp only
  repeat' split
  all_goals (simp only [List.length_nil, wlist_len]; exact ⟨by omega, by omega⟩)
theorem SM.wide {w : World} {Bd Bd' : Nat} {A : Option Addr} {ms : List MS} (h : SM w Bd A ms) (hB : Bd ≤ Bd') : SM w Bd' A ms := fun h0 => by
  obtain ⟨ad, e, hl, hc⟩ := h h0
  exact ⟨ad, e, by omega, hc⟩

set_option maxHeartbeats 3200000 in
theorem MetricCombines_walk (A : Option Addr) (ca : Nat) (ms : List MS) (W : Option Addr) (cb : Nat) (ws : List Int) (w : World) (hr : SM w w.heap.size A ms) (la : ms.length ≤ ca) (ma : ca ≤ 9223372036854775807)
    (ok : ∀ m ∈ ms, m.ok w w.heap.size ∧ m.b.length ≤ 9223372036854775807 ∧ m.f.length ≤ 9223372036854775807) (sb : SI w w.heap.size .i64 W ws) (lb : ws.length ≤ cb) (mb : cb ≤ 9223372036854775807) (_ : ∀ n ∈ ws, (Lit.int .i64 n).wf = true) :
    Calls Try.prog 9 #[.slice A ms.length ca, .slice W ws.length cb] w fun e w' => e = .returned (.bool true) ∧ Up w w' := by
  have M := metrics_any A ca ms 6 w.heap.size w hr (by omega) (by omega) (fun m hm => (ok m hm).2)
  cases hs : metricsB ms 6 with
  | false =>
    rw [hs] at M
    have HM := Lib.hid M
    clear M hs
    go_enter Try.func9, Try.ntmps9
    go_wp2_with fail
    refine HM.out.mono ?_
    rintro e w1 ⟨rfl, rfl⟩
    go_wp2_with fail
    go_ret
    exact ⟨rfl, Up.refl _⟩
  | true =>
    rw [hs] at M
    have HM := Lib.hid M
    have hn : ms.length ≤ 6 := by
      simp only [metricsB, Bool.and_eq_true, decide_eq_true_iff] at hs
      exact hs.2
    clear M hs
    by_cases hw : ws.length ≤ 8
    · have C1 := Lib.hid (combine_any A ca ms W cb ws w hr (fun m hm => (ok m hm).1) (fun m hm => (ok m hm).2) hn sb hw)
      have C2 := Lib.hid (fun (w' : World) (hU : Up w w') => refCombine_any A ca ms W cb ws w' (SM.wide (hr.below hU) hU.size) (fun m hm => ⟨(ok m hm).1.1.up hU, (ok m hm).1.2.up hU⟩) (fun m hm => (ok m hm).2) hn (sb.up hU) hw)
      have L := combV_lens (ms.map fun m => (m.b, m.f)) ws
      obtain ⟨V, hV⟩ : ∃ V, V = combV (ms.map fun m => (m.b, m.f)) ws := ⟨_, rfl⟩
      rw [← hV] at C1 C2 L
      obtain ⟨⟨xs, ys⟩, er⟩ := V
      clear hV
      have t1 : decide (8 < ws.length) = false := by simp; omega
      have t2 : (er == er) = true := by simp
      go_enter Try.func9, Try.ntmps9
      go_wp2_with fail
      refine HM.out.mono ?_
      rintro e w1 ⟨rfl, rfl⟩
      go_wp2_with fail
      refine C1.out.mono ?_
      rintro e w2 ⟨X, cx, Y, cy, rfl, sx, sy, U2⟩
      go_wp2_with fail
      have D3 : Up w2 (w2.alloc (Obj.cells #[Value.slice X xs.length cx, Value.slice Y ys.length cy] 28)) := (Below.refl _ _).alloc (Nat.le_refl _) _
      have b3 := Blk.new w2 28 #[Value.slice X xs.length cx, Value.slice Y ys.length cy]
      obtain ⟨w3, hw3⟩ : ∃ w3, w3 = w2.alloc (Obj.cells #[Value.slice X xs.length cx, Value.slice Y ys.length cy] 28) := ⟨_, rfl⟩
      rw [← hw3] at D3 b3 ⊢
      clear hw3
      refine (C2.out w3 (Up.trans U2 D3)).mono ?_
      rintro e w4 ⟨X', cx', Y', cy', rfl, sx', sy', U4⟩
      obtain ⟨w5, hw5⟩ : ∃ w5, w5 = w4.alloc (Obj.cells #[Value.slice X' xs.length cx', Value.slice Y' ys.length cy'] 28) := ⟨_, rfl⟩
      have D5 : Up w4 w5 := by rw [hw5]; exact (Below.refl _ _).alloc (Nat.le_refl _) _
      have b4 := Blk.up b3 U4
      have l4 := b4.lt
      have S := Lib.hid (sameMetric_any X cx xs Y cy ys X' cx' xs Y' cy' ys w5 (sx.up (Up.trans D3 (Up.trans U4 D5))) (sy.up (Up.trans D3 (Up.trans U4 D5))) (sx'.up D5) (sy'.up D5) (by have : xs.length ≤ 26 := L.1; have : ys.length ≤ 26 := L.2; omega) (by have : xs.length ≤ 26 := L.1; have : ys.length ≤ 26 := L.2; omega) (by have : xs.length ≤ 26 := L.1; have : ys.length ≤ 26 := L.2; omega) (by have : xs.length ≤ 26 := L.1; have : ys.length ≤ 26 := L.2; omega))
      rw [show decide ((xs, ys) = (xs, ys)) = true by simp, hw5] at S
      rw [hw5] at D5
      have UU := Lib.hid (Up.trans U2 (Up.trans D3 (Up.trans U4 D5)))
      obtain ⟨g, hg⟩ : ∃ g, g = w2.heap.size := ⟨_, rfl⟩
      rw [← hg] at b4 l4 ⊢
      obtain ⟨s1, s1b⟩ := duo b4
      have l5 : g ≠ w4.heap.size := by omega
      clear hw5 hg L C1 C2 hr ok sb HM sx sy sx' sy' U2 D3 U4 D5 b3 b4
      go_wp2_with fail
      refine S.out.mono ?_
      rintro e w6 ⟨rfl, U6⟩
      go_wp2_with fail
      refine (awake_any _).mono ?_
      rintro e w7 ⟨rfl, U7⟩
      go_wp2_with fail
      go_ret
      exact ⟨rfl, Up.trans UU.out (Up.trans U6 U7)⟩
    · have t1 : decide (8 < ws.length) = true := by simp; omega
      go_enter Try.func9, Try.ntmps9
      go_wp2_with fail
      refine HM.out.mono ?_
      rintro e w1 ⟨rfl, rfl⟩
      go_wp2_with fail
      go_ret
      exact ⟨rfl, Up.refl _⟩

open Go.ChangeShapes Go.WideShapes Go.ChangeAt Go.Joins
open Go.ChangeMaps (open_string shut_string)
set_option maxRecDepth 100000 in
theorem MetricCombines.lifted (os : Os) (started : os.Started) (H : Type) (enc : TypeId × Value → H) :
    ReturnsInHanded {} Try.checked os 9 .any (Rows.metricCombinesSpec.pre6 enc Try.prog Try.f9 Rows.metricCombinesRow.domain false) (Rows.metricCombinesSpec.post enc Try.prog Try.f9 false true false false) := by
  refine returnsInHanded_of_change (C := Try.checked) own started (by kernel_rfl) Try.func9
    (ChangeSpec.witness6 (enc := enc) (C := Try.checked) false ⟨#[], #[.slice none 0 0, .slice none 0 0], []⟩ 8 (by kernel_rfl) (by kernel_rfl) (by kernel_rfl) (by kernel_rfl)) ?_
  intro W base args ds gs before hval0 hW hcnd _
  have hval : ∀ (j : Nat) t v, Try.f9.params[j]? = some t → args[j]? = some v → Value.okWide Try.prog W .any base t v := hval0
  have hW' := hW
  obtain ⟨p, q, hA0, hV, rfl, hfz, hnd⟩ := hW
  have hA : DataW.TrodAll enc Try.prog W 0 (fun _ => true) true Try.f9.params.toList args.toList ds p := hA0
  rw [Try.params9] at hA hval
  obtain ⟨v0, vs0, d0, ds0, p0, q0, hargs, rfl, rfl, h0, r0⟩ := trodAll_cons hA
  obtain ⟨v1, vs1, d1, ds1, p1, q1, rfl, rfl, rfl, h1, r1⟩ := trodAll_cons r0
  obtain ⟨rfl, rfl, rfl⟩ := trodAll_nil r1
  obtain rfl : args = #[v0, v1] := by cases args; simp_all
  obtain ⟨rfl, rfl⟩ := trodVars_none hV
  have k0 := h0
  have lt0 : ∀ x ∈ p0, x.block < W.heap.size := by obtain ⟨m, hm⟩ := k0; exact DataW.trod_lt m _ _ _ hm
  have k1 := h1
  have lt1 : ∀ x ∈ p1, x.block < W.heap.size := by obtain ⟨m, hm⟩ := k1; exact DataW.trod_lt m _ _ _ hm
  obtain ⟨A0, ca0, ms0, hv0, sM0, la0, ma0, ok0⟩ := metrics_arg (hval 0 30 v0 rfl rfl) h0
  obtain ⟨A1, ca1, b1, hv1, sA1, la1, ma1, wa1⟩ := ints_arg Try.underlying22 Try.underlying2 (by kernel_rfl) (hval 1 22 v1 rfl rfl) h1
  subst hv0 hv1
  clear hA0 hval0
  refine (MetricCombines_walk A0 ca0 ms0 A1 ca1 b1 W sM0 la0 ma0 ok0 sA1 la1 ma1 wa1).mono fun e W' ⟨he, bel⟩ => ?_
  subst he
  exact ⟨_, rfl, _, _, _, [], _, [], hW', trodAll_mk1 (shut_bool Try.underlying4 _), (trodAll_cons_mk (Below.trod laidOut (by kernel_rfl) (of_decide_eq_true (by kernel_rfl)) k0 bel lt0) (trodAll_cons_mk (Below.trod laidOut (by kernel_rfl) (of_decide_eq_true (by kernel_rfl)) k1 bel lt1) trodAll_mk0)), rfl, bel.frame _, fun h => by cases h⟩

theorem MetricCombines.over : Rows.metricCombinesRow.holds Try.pinned (OpenSpec.ofChange Rows.metricCombinesSpec) :=
  OpenClaim.holds_of_wide 9 Try.f9 rfl rfl rfl rfl rfl rfl rfl ⟨rfl, rfl, rfl, rfl, rfl⟩ rfl rfl rfl rfl rfl (by kernel_rfl) Try.func9 (by kernel_rfl)
    (of_decide_eq_true (by kernel_rfl)) (by unfold Func.isWrapper; first | (rw [if_pos (by decide +kernel)]; kernel_rfl) | (rw [if_neg (by decide +kernel)]; exact ⟨rfl, rfl⟩))
    (fun os started H enc _ => MetricCombines.lifted os started H enc)

theorem MetricCombines_holds : Rows.MetricCombinesSaid := MetricCombines.over
end Go.Proofs.Ytnaeabkknmoaeaa

