/-
  MetricPeaks: for every list of costs and every place the law returns true. Conditions: none.
-/
import Derived.Test.YtnaeabkknmoaeaaMFold
import Derived.Test.YtnaeabkknmoaeaaMList
import Derived.Test.YtnaeabkknmoaeaaWords2
import Derived.Test.YtnaeabkknmoaeaaFrameKit
namespace Go.Proofs.Ytnaeabkknmoaeaa
open Go.RowKit

theorem far_ne {A B : Nat} (h : ∀ b, b < A → b < B) : (∀ b, b < A → b ≠ B) ∧ (∀ b, b < A → B ≠ b) ∧ (∀ b, b < A → b ≠ B + 1) ∧ (∀ b, b < A → B + 1 ≠ b) :=
  ⟨fun b k => by have := h b k; omega, fun b k => by have := h b k; omega, fun b k => by have := h b k; omega, fun b k => by have := h b k; omega⟩
theorem comp_lt {A B C : Nat} (h : ∀ b, b < A → b < B) (k : ∀ b, b < B → b < C) : ∀ b, b < A → b < C := fun b hb => k b (h b hb)
def sums (l : List Int) (k : Nat) : List Int := (List.range k).map fun j => (mfold (l.take (j + 1))).1
/-- Has one of the first k sums, or 0, been P? -/
def reachB (l : List Int) (k : Nat) (P : Int) : Bool := P == 0 || (sums l k).any (· == P)
theorem reachB_succ (l : List Int) (k : Nat) (P : Int) : reachB l (k + 1) P = (reachB l k P || (mfold (l.take (k + 1))).1 == P) := by
  simp [reachB, sums, List.range_succ, Bool.or_assoc]
theorem reach_peak (l : List Int) : reachB l l.length (mfold l).2 = true := by
  suffices H : ∀ k, k ≤ l.length → reachB l k (mfold (l.take k)).2 = true by
    have := H l.length (Nat.le_refl _)
    rwa [List.take_length] at this
  intro k
  induction k with
  | zero => intro _; simp [reachB, mfold]
  | succ k ih =>
    intro hk
    have e := mfold_take l k (by omega)
    have := ih (by omega)
    rw [reachB_succ]
    by_cases h : (mfold (l.take k)).2 ≤ (mfold (l.take k)).1 + l[k]'(by omega)
    · rw [e]
      simp only [mstep]
      rw [Int.max_eq_right h]
      simp
    · rw [show (mfold (l.take (k + 1))).2 = (mfold (l.take k)).2 from by rw [e]; simp only [mstep]; omega, this]
      rfl
theorem peak_mono (l : List Int) (t : Nat) : (mfold (l.take t)).2 ≤ (mfold l).2 := by
  have h := mfold_append (l.take t) (l.drop t)
  rw [List.take_append_drop] at h
  rw [h]
  simp only
  omega
theorem wf64 {n : Int} (h : (Lit.int .i64 n).wf = true) : -9223372036854775808 ≤ n ∧ n ≤ 9223372036854775807 := bounds_i64 h

set_option maxRecDepth 100000 in
set_option maxHeartbeats 6400000 in
theorem MetricPeaks_walk (A : Option Addr) (ca : Nat) (l : List Int) (at_ : Int) (w : World) (sA : SI w w.heap.size .i64 A l) (la : l.length ≤ ca) (ma : ca ≤ 9223372036854775807) (_ : ∀ n ∈ l, (Lit.int .i64 n).wf = true)
    (wat : (Lit.int .i64 at_).wf = true) :
    Calls Try.prog 8 #[.slice A l.length ca, .int .i64 at_] w fun e w' => e = .returned (.bool true) ∧ Up w w' := by
  by_cases h1 : 500 < l.length
  · have hd : decide (500 < (l.length : Int)) = true := by simp; omega
    go_enter Try.func8, Try.ntmps8
    go_wp2_with fail
    go_ret
    exact ⟨rfl, Up.refl _⟩
  have hd : decide (500 < (l.length : Int)) = false := by simp; omega
  by_cases h2 : at_ < 0
  · go_enter Try.func8, Try.ntmps8
    go_wp2_with fail
    go_ret
    exact ⟨rfl, Up.refl _⟩
  obtain ⟨t, rfl⟩ : ∃ t : Nat, at_ = (t : Int) := ⟨at_.toNat, by omega⟩
  have hd2 : decide ((t : Int) < 0) = false := by simp
  by_cases h3 : l.length < t
  · have hd3 : decide ((l.length : Int) < t) = true := by simp <;> omega
    have hd4 : decide ((l.length : Nat) < t) = true := by simp <;> omega
    go_enter Try.func8, Try.ntmps8
    go_wp2_with fail
    go_ret
    exact ⟨rfl, Up.refl _⟩
  have hd3 : decide ((l.length : Nat) < t) = false := by simp; omega
  have htl : t ≤ l.length := by omega
  have h500 : l.length ≤ 500 := by omega
  have t0 : (0 : Int) ≤ t := by omega
  have t1 : (t : Int) ≤ ca := by omega
  have HA := Lib.hid sA
  clear sA h1 h2 h3 wat
  go_enter Try.func8, Try.ntmps8
  go_wp2_with fail
  go_loop [28] (fun i => ∃ k : Nat, k ≤ l.length ∧ i = .int .i64 k ∧ (∀ c ∈ l.take k, okc c = true)) (fun i => l.length - (intOf i).toNat)
  case atStart => exact ⟨0, Nat.zero_le _, rfl, by simp⟩
  case round =>
    obtain ⟨k, hk, rfl, hok⟩ := hrel
    by_cases hlt : k < l.length
    · obtain ⟨ad, rfl, had, hcell⟩ := HA.out.at_ hlt
      have hok1 := okc_step hlt hok
      obtain ⟨z, hz⟩ : ∃ z, z = l[k] := ⟨_, rfl⟩
      rw [← hz] at hcell hok1
      have HO := Lib.hid hok1
      clear hz hok1 hok
      go_wp2_with fail
      all_goals first
        | (go_ret; exact ⟨rfl, Up.refl _⟩)
        | (go_round
           case rel => exact ⟨k + 1, by omega, by go_num, HO.out (by simp [okc]; omega)⟩
           case measure => simp [intOf]; omega)
    · have hk' : k = l.length := by omega
      rw [hk', List.take_length] at hok
      have HO := Lib.hid hok
      clear hok hk'
      have F1 := fun W (hU : Up w W) => fold_any A ca l W (HA.out.up hU) (by omega)
      have F2 := fun W (hU : Up w W) => fold_any A ca (l.take t) W ((HA.out.up hU).take t) (by rw [List.length_take]; omega)
      rw [show (l.take t).length = t from by rw [List.length_take]; omega] at F2
      have e1 := foldV_mfold HO.out
      have e2 := foldV_mfold (l := l.take t) (fun c hc => HO.out c (List.mem_of_mem_take hc))
      have b1 := mfold_ok (l := l) (by omega) HO.out
      rw [← e1] at b1
      have E1 := Lib.hid e1
      have E2 := Lib.hid e2
      obtain ⟨s, hs⟩ : ∃ s, s = foldV l := ⟨_, rfl⟩
      obtain ⟨s', hs'⟩ : ∃ s, s = foldV (l.take t) := ⟨_, rfl⟩
      rw [← hs] at F1 b1 E1
      rw [← hs'] at F2 E2
      clear e1 e2 hs hs'
      obtain ⟨N, P⟩ := s
      obtain ⟨M, R⟩ := s'
      simp only at F1 F2 b1
      have H1 := Lib.hid F1
      have H2 := Lib.hid F2
      clear F1 F2
      go_upto_region 9 with fail
      go_cut [7, 8] (fun s7 s8 wx => ∃ g1 g2 : Nat, s7 = .pointer (some ⟨g1, 0, none⟩) ∧ s8 = .pointer (some ⟨g2, 0, none⟩) ∧ wx.cell? ⟨g1, 0, none⟩ = some (.int .i64 N) ∧ wx.cell? ⟨g1, 1, none⟩ = some (.int .i64 P) ∧ wx.cell? ⟨g2, 0, none⟩ = some (.int .i64 M) ∧ wx.cell? ⟨g2, 1, none⟩ = some (.int .i64 R) ∧ Up w wx)
      case first =>
        have UU : Up w w := Up.refl _
        go_region_held3 (fun wx => Up w wx) (exact (by have hUs := UU.size; (repeat' (first | exact UU | apply Below.drew | apply Below.alloc | apply Below.setCell)) <;> first | omega | (try simp; try omega))) (first
          | (go_at_call_of 12 (Value.slice A l.length ca); refine (H1.out _ (by have hUs := UU.size; (repeat' (first | exact UU | apply Below.drew | apply Below.alloc | apply Below.setCell)) <;> first | omega | (try simp; try omega))).mono ?_; rintro e wy ⟨rfl, hbx⟩; replace UU : Up w wy := Up.trans (by have hUs := UU.size; (repeat' (first | exact UU | apply Below.drew | apply Below.alloc | apply Below.setCell)) <;> first | omega | (try simp; try omega)) hbx; have hus := UU.size; obtain ⟨hc, hf, hzn, hy, hx, hn⟩ := bcell hbx; (try (have hzz := comp_lt hz0 hzn; obtain ⟨na, nb, nc, nd⟩ := far_ne hzz)); obtain ⟨ma, mb, mc, md⟩ := far_ne hzn; have hz0 := hzn; clear hbx)
          | (go_at_call_of 12 (Value.slice A t ca); refine (H2.out _ (by have hUs := UU.size; (repeat' (first | exact UU | apply Below.drew | apply Below.alloc | apply Below.setCell)) <;> first | omega | (try simp; try omega))).mono ?_; rintro e wx ⟨rfl, hbx⟩; replace UU : Up w wx := Up.trans (by have hUs := UU.size; (repeat' (first | exact UU | apply Below.drew | apply Below.alloc | apply Below.setCell)) <;> first | omega | (try simp; try omega)) hbx; have hus := UU.size; obtain ⟨hc, hf, hzn, hy, hx, hn⟩ := bcell hbx; (try (have hzz := comp_lt hz0 hzn; obtain ⟨na, nb, nc, nd⟩ := far_ne hzz)); obtain ⟨ma, mb, mc, md⟩ := far_ne hzn; have hz0 := hzn; clear hbx))
        all_goals
          go_wp2_with fail
          go_meet
          try (have _q : wx.cell? ⟨w.heap.size, 0, none⟩ = some (.int .i64 0) := by go_simp)
          try (have _q : wx.cell? ⟨w.heap.size, 1, none⟩ = some (.int .i64 0) := by go_simp)
          try (have _q : wx.cell? ⟨w.heap.size + 1, 0, none⟩ = some (.int .i64 0) := by go_simp)
          try (have _q : wx.cell? ⟨w.heap.size + 1, 1, none⟩ = some (.int .i64 0) := by go_simp)
          try (have _q : wx.cell? ⟨wy.heap.size, 0, none⟩ = some (.int .i64 0) := by go_simp)
          try (have _q : wx.cell? ⟨wy.heap.size, 1, none⟩ = some (.int .i64 0) := by go_simp)
          try (have _q : wx.cell? ⟨wy.heap.size + 1, 0, none⟩ = some (.int .i64 0) := by go_simp)
          try (have _q : wx.cell? ⟨wy.heap.size + 1, 1, none⟩ = some (.int .i64 0) := by go_simp)
          try (have _n : w.heap.size < wy.heap.size := by go_simp)
          try (have _m : w.heap.size + 1 < wy.heap.size := by go_simp)
          try (have _p : wy.heap.size < wx.heap.size := by go_simp)
          try (have _r : ¬ w.heap.size = wy.heap.size := by omega)
          try (have _r : ¬ w.heap.size = wy.heap.size + 1 := by omega)
          try (have _r : ¬ w.heap.size = wx.heap.size := by omega)
          try (have _r : ¬ w.heap.size = wx.heap.size + 1 := by omega)
          try (have _r : ¬ w.heap.size + 1 = wy.heap.size := by omega)
          try (have _r : ¬ w.heap.size + 1 = wy.heap.size + 1 := by omega)
          try (have _r : ¬ w.heap.size + 1 = wx.heap.size := by omega)
          try (have _r : ¬ w.heap.size + 1 = wx.heap.size + 1 := by omega)
          try (have _r : ¬ wy.heap.size = w.heap.size := by omega)
          try (have _r : ¬ wy.heap.size = w.heap.size + 1 := by omega)
          try (have _r : ¬ wy.heap.size = wx.heap.size := by omega)
          try (have _r : ¬ wy.heap.size = wx.heap.size + 1 := by omega)
          try (have _r : ¬ wy.heap.size + 1 = w.heap.size := by omega)
          try (have _r : ¬ wy.heap.size + 1 = w.heap.size + 1 := by omega)
          try (have _r : ¬ wy.heap.size + 1 = wx.heap.size := by omega)
          try (have _r : ¬ wy.heap.size + 1 = wx.heap.size + 1 := by omega)
          try (have _r : ¬ wx.heap.size = w.heap.size := by omega)
          try (have _r : ¬ wx.heap.size = w.heap.size + 1 := by omega)
          try (have _r : ¬ wx.heap.size = wy.heap.size := by omega)
          try (have _r : ¬ wx.heap.size = wy.heap.size + 1 := by omega)
          try (have _r : ¬ wx.heap.size + 1 = w.heap.size := by omega)
          try (have _r : ¬ wx.heap.size + 1 = w.heap.size + 1 := by omega)
          try (have _r : ¬ wx.heap.size + 1 = wy.heap.size := by omega)
          try (have _r : ¬ wx.heap.size + 1 = wy.heap.size + 1 := by omega)
          refine ⟨_, _, rfl, rfl, ?_, ?_, ?_, ?_, ?_⟩
          · go_simp
          · go_simp
          · go_simp
          · go_simp
          · have hUs := UU.size
            (repeat' (first | exact UU | apply Below.drew | apply Below.alloc | apply Below.setCell)) <;> first | omega | (try simp; try omega)
      case rest =>
        obtain ⟨g1, g2, rfl, rfl, c0, c1, d0, d1, UU⟩ := hcut
        go_wp2_with fail
        go_loop [9, 10, 50] (fun rb sv i => ∃ k : Nat, k ≤ l.length ∧ i = .int .i64 k ∧ sv = .int .i64 (mfold (l.take k)).1 ∧ rb = .bool (reachB l k P)) (fun _ _ i => l.length - (intOf i).toNat)
        case atStart => exact ⟨0, Nat.zero_le _, rfl, by simp [mfold], by simp [reachB, sums]⟩
        case round =>
          obtain ⟨k, hk, rfl, rfl, rfl⟩ := hrel
          by_cases hlt : k < l.length
          · obtain ⟨ad, rfl, had, hcell⟩ := (HA.out.below UU).at_ hlt
            have hs1 := mfold_ok (l := l.take k) (by rw [List.length_take]; omega) (fun c hc => HO.out c (List.mem_of_mem_take hc))
            have hs2 := mfold_ok (l := l.take (k + 1)) (by rw [List.length_take]; omega) (fun c hc => HO.out c (List.mem_of_mem_take hc))
            have hst := mfold_take l k hlt
            have hrs := reachB_succ l k P
            obtain ⟨z, hz⟩ : ∃ z, z = l[k] := ⟨_, rfl⟩
            rw [← hz] at hcell hst
            rw [hst] at hs2 hrs
            obtain ⟨s, hs⟩ : ∃ s, s = (mfold (l.take k)).1 := ⟨_, rfl⟩
            have hst1 : (mfold (l.take (k + 1))).1 = s + z := by rw [hst, hs]; rfl
            have hm1 : (mstep (mfold (l.take k)) z).1 = s + z := by rw [hs]; rfl
            rw [hm1] at hs2 hrs
            rw [← hs] at hs1
            rw [← hs]
            have HST := Lib.hid hst1
            obtain ⟨b, hb⟩ : ∃ b, b = reachB l k P := ⟨_, rfl⟩
            rw [← hb] at hrs
            rw [← hb]
            have HRS := Lib.hid hrs
            have hN : -72057594037927936 ≤ s ∧ s ≤ 72057594037927936 := by omega
            have hN2 : -72057594037927936 ≤ s + z ∧ s + z ≤ 72057594037927936 := by omega
            clear hst hst1 hm1 hrs hs hz hb hs1 hs2
            cases b
            all_goals
              go_wp2_with fail
              go_round
              case rel => exact ⟨k + 1, by omega, by go_num, by rw [HST.out], by rw [HRS.out]; rfl⟩
              case measure => simp [intOf]; omega
          · have hk' : k = l.length := by omega
            subst hk'
            have hP : P = (mfold l).2 := by rw [← E1.out]
            have hN : (mfold l).1 = N := by rw [← E1.out]
            have hR := reach_peak l
            rw [← hP] at hR
            have hML : M ≤ R ∧ 0 ≤ R := by have := mfold_le (l.take t); rw [← E2.out] at this; exact this
            have hRP : R ≤ P := by have := peak_mono l t; rw [← E2.out, ← E1.out] at this; exact this
            rw [List.take_length, hR, hN]
            clear hP hN hR
            go_wp2_with fail
            refine (awake_any _).mono ?_
            rintro e w9 ⟨rfl, hb9⟩
            go_wp2_with fail
            go_ret
            exact ⟨rfl, Up.trans UU hb9⟩

open Go.ChangeShapes Go.WideShapes Go.ChangeAt Go.Joins
open Go.ChangeMaps (open_string shut_string)
set_option maxRecDepth 100000 in
theorem MetricPeaks.lifted (os : Os) (started : os.Started) (H : Type) (enc : TypeId × Value → H) :
    ReturnsInHanded {} Try.checked os 8 .any (Rows.metricPeaksSpec.pre6 enc Try.prog Try.f8 Rows.metricPeaksRow.domain false) (Rows.metricPeaksSpec.post enc Try.prog Try.f8 false true false false) := by
  refine returnsInHanded_of_change (C := Try.checked) own started (by kernel_rfl) Try.func8
    (ChangeSpec.witness6 (enc := enc) (C := Try.checked) false ⟨#[], #[.slice none 0 0, .int .i64 0], []⟩ 8 (by kernel_rfl) (by kernel_rfl) (by kernel_rfl) (by kernel_rfl)) ?_
  intro W base args ds gs before hval0 hW hcnd _
  have hval : ∀ (j : Nat) t v, Try.f8.params[j]? = some t → args[j]? = some v → Value.okWide Try.prog W .any base t v := hval0
  have hW' := hW
  obtain ⟨p, q, hA0, hV, rfl, hfz, hnd⟩ := hW
  have hA : DataW.TrodAll enc Try.prog W 0 (fun _ => true) true Try.f8.params.toList args.toList ds p := hA0
  rw [Try.params8] at hA hval
  obtain ⟨v0, vs0, d0, ds0, p0, q0, hargs, rfl, rfl, h0, r0⟩ := trodAll_cons hA
  obtain ⟨v1, vs1, d1, ds1, p1, q1, rfl, rfl, rfl, h1, r1⟩ := trodAll_cons r0
  obtain ⟨rfl, rfl, rfl⟩ := trodAll_nil r1
  obtain rfl : args = #[v0, v1] := by cases args; simp_all
  obtain ⟨rfl, rfl⟩ := trodVars_none hV
  have k0 := h0
  have lt0 : ∀ x ∈ p0, x.block < W.heap.size := by obtain ⟨m, hm⟩ := k0; exact DataW.trod_lt m _ _ _ hm
  have k1 := h1
  have lt1 : ∀ x ∈ p1, x.block < W.heap.size := by obtain ⟨m, hm⟩ := k1; exact DataW.trod_lt m _ _ _ hm
  obtain ⟨A0, ca0, b0, hv0, sA0, la0, ma0, wa0⟩ := ints_arg Try.underlying22 Try.underlying2 (by kernel_rfl) (hval 0 22 v0 rfl rfl) h0
  obtain ⟨x1, rfl, rfl, rfl, wx1⟩ := open_int Try.underlying3 (hval 1 3 v1 rfl rfl) h1
  subst hv0
  clear hA0 hval0
  refine (MetricPeaks_walk A0 ca0 b0 x1 W sA0 la0 ma0 wa0 wx1).mono fun e W' ⟨he, bel⟩ => ?_
  subst he
  exact ⟨_, rfl, _, _, _, [], _, [], hW', trodAll_mk1 (shut_bool Try.underlying4 _), (trodAll_cons_mk (Below.trod laidOut (by kernel_rfl) (of_decide_eq_true (by kernel_rfl)) k0 bel lt0) (trodAll_cons_mk (Below.trod laidOut (by kernel_rfl) (of_decide_eq_true (by kernel_rfl)) k1 bel lt1) trodAll_mk0)), rfl, bel.frame _, fun h => by cases h⟩

theorem MetricPeaks.over : Rows.metricPeaksRow.holds Try.pinned (OpenSpec.ofChange Rows.metricPeaksSpec) :=
  OpenClaim.holds_of_wide 8 Try.f8 rfl rfl rfl rfl rfl rfl rfl ⟨rfl, rfl, rfl, rfl, rfl⟩ rfl rfl rfl rfl rfl (by kernel_rfl) Try.func8 (by kernel_rfl)
    (of_decide_eq_true (by kernel_rfl)) (by unfold Func.isWrapper; first | (rw [if_pos (by decide +kernel)]; kernel_rfl) | (rw [if_neg (by decide +kernel)]; exact ⟨rfl, rfl⟩))
    (fun os started H enc _ => MetricPeaks.lifted os started H enc)

theorem MetricPeaks_holds : Rows.MetricPeaksSaid := MetricPeaks.over
end Go.Proofs.Ytnaeabkknmoaeaa
