/-
  MetricLinear: for all metrics, weights, steps and numbers the law returns true. Conditions: none.
-/
import Derived.Test.YtnaeabkknmoaeaaMSame
import Derived.Test.YtnaeabkknmoaeaaMComb
import Derived.Test.YtnaeabkknmoaeaaMCost
import Derived.Test.YtnaeabkknmoaeaaSched
namespace Go.Proofs.Ytnaeabkknmoaeaa
open Go.RowKit

theorem wlist_getD (ws : List Int) (bs : List (List Int)) (k s : Nat) (hs : s < 26) : (wlist ws bs k).getD s 0 = wsum ws bs s k := by
  rw [List.getD_eq_getElem?_getD]
  simp [wlist, hs]
theorem wsum_two (x y : Int) (b0 b1 : List Int) (s : Nat) : wsum [x, y] [b0, b1] s 2 = x * b0.getD s 0 + y * b1.getD s 0 := by
  simp [wsum]
theorem combV_ok {ms : List (List Int × List Int)} {ws : List Int} (h : (combV ms ws).2 = 0) :
    (∀ m ∈ ms, validB m.1 m.2 = true) ∧ (∀ x ∈ ws, inB x = true) ∧ validB (combV ms ws).1.1 (combV ms ws).1.2 = true ∧ (combV ms ws).1 = (wlist ws (ms.map (·.1)) ms.length, wlist ws (ms.map (·.2)) ms.length) := by
  revert h
  unfold combV
  dsimp only
  split
  · intro h; simp at h
  split
  · intro h; simp at h
  split
  · intro h; simp at h
  split
  · intro h; simp at h
  split
  · intro h; simp at h
  rename_i h1 h2 h3 h4 h5
  intro _
  refine ⟨?_, ?_, ?_, rfl⟩
  · simpa using h1
  · simpa using h3
  · simpa using h5
theorem costV_bd (b f : List Int) (step n : Int) (hv : validB b f = true) : -5096000 ≤ costV b f step n ∧ costV b f step n ≤ 5096000 := by
  have hb := valid_get hv step.toNat
  obtain ⟨⟨h1, h2⟩, h3, h4⟩ := hb
  generalize b.getD step.toNat 0 = p at h1 h2
  generalize f.getD step.toNat 0 = q at h3 h4
  unfold costV
  repeat' split
  all_goals try omega
  · rename_i hn
    have := mul_bd (x := b.getD step.toNat 0) (n := n) (M := 1000) (N := 1000) (valid_get hv step.toNat).1.1 (valid_get hv step.toNat).1.2 (by omega) (by omega) (by omega) (by omega)
    omega
  · rename_i hn
    have := mul_bd (x := n) (n := f.getD step.toNat 0) (M := 4096) (N := 1000) (by omega) (by omega) (valid_get hv step.toNat).2.1 (valid_get hv step.toNat).2.2 (by omega) (by omega)
    have := (valid_get hv step.toNat).1
    omega
theorem costV_in {b f : List Int} {step : Int} (n : Int) (h0 : 0 ≤ step) (h1 : step < 26) (hv : validB b f = true) :
    costV b f step n = if step = 20 then (if -1000 ≤ n ∧ n ≤ 1000 then b.getD step.toNat 0 * n else 0) else if 0 ≤ n ∧ n ≤ 4096 then b.getD step.toNat 0 + n * f.getD step.toNat 0 else 0 := by
  unfold costV
  rw [if_pos ⟨h0, h1, hv⟩]
theorem comb_linear {b0 f0 b1 f1 : List Int} {x y : Int} (step n : Int) (h : (combV [(b0, f0), (b1, f1)] [x, y]).2 = 0) :
    costV (combV [(b0, f0), (b1, f1)] [x, y]).1.1 (combV [(b0, f0), (b1, f1)] [x, y]).1.2 step n = x * costV b0 f0 step n + y * costV b1 f1 step n ∧
    (-1000 ≤ x ∧ x ≤ 1000) ∧ (-1000 ≤ y ∧ y ≤ 1000) ∧ (-5096000 ≤ costV b0 f0 step n ∧ costV b0 f0 step n ≤ 5096000) ∧ (-5096000 ≤ costV b1 f1 step n ∧ costV b1 f1 step n ≤ 5096000) := by
  obtain ⟨hv, hw, hV, hE⟩ := combV_ok h
  have v0 : validB b0 f0 = true := hv (b0, f0) (by simp)
  have v1 : validB b1 f1 = true := hv (b1, f1) (by simp)
  refine ⟨?_, inB_of (hw x (by simp)), inB_of (hw y (by simp)), costV_bd _ _ _ _ v0, costV_bd _ _ _ _ v1⟩
  rw [hE] at hV ⊢
  dsimp only [List.map, List.length] at hV ⊢
  by_cases hs : 0 ≤ step ∧ step < 26
  · have e0 : (wlist [x, y] [b0, b1] 2).getD step.toNat 0 = x * b0.getD step.toNat 0 + y * b1.getD step.toNat 0 := by rw [wlist_getD _ _ _ _ (by omega), wsum_two]
    have e1 : (wlist [x, y] [f0, f1] 2).getD step.toNat 0 = x * f0.getD step.toNat 0 + y * f1.getD step.toNat 0 := by rw [wlist_getD _ _ _ _ (by omega), wsum_two]
    rw [costV_in n hs.1 hs.2 hV, costV_in n hs.1 hs.2 v0, costV_in n hs.1 hs.2 v1, e0, e1]
    generalize b0.getD step.toNat 0 = p0
    generalize b1.getD step.toNat 0 = p1
    generalize f0.getD step.toNat 0 = q0
    generalize f1.getD step.toNat 0 = q1
    clear e0 e1 hs hV hE hv hw h v0 v1
    repeat' split
    all_goals grind
  · unfold costV
    rw [if_neg (by omega), if_neg (by omega), if_neg (by omega)]
    omega

theorem wlist_len' (ws : List Int) (bs : List (List Int)) (k : Nat) : (wlist ws bs k).length = 26 := by simp [wlist]
theorem combV_lens' (ms : List (List Int × List Int)) (ws : List Int) : (combV ms ws).1.1.length ≤ 26 ∧ (combV ms ws).1.2.length ≤ 26 := by
  unfold combV
  dsimp only
  repeat' split
  all_goals (simp only [List.length_nil, wlist_len']; exact ⟨by omega, by omega⟩)
theorem SM.two {w : World} {g : Nat} {Bd : Nat} (m m' : MS) (h : Blk w g 28 #[m.va, m.vb, m'.va, m'.vb]) (hg : g < Bd) : SM w Bd (some ⟨g, 0, none⟩) [m, m'] := fun _ =>
  ⟨⟨g, 0, none⟩, rfl, hg, fun j hj => by
    have h0 := h.cell 0
    have h1 := h.cell 1
    have h2 := h.cell 2
    have h3 := h.cell 3
    simp at h0 h1 h2 h3
    match j, hj with
    | 0, _ => simp [Addr.add, h0, h1]
    | 1, _ => simp [Addr.add, h2, h3]⟩
theorem metricsB_two {m m' : MS} : metricsB [m, m'] 2 = (small m && small m') := by simp [metricsB]

set_option maxHeartbeats 3200000 in
theorem MetricLinear_walk (A : Option Addr) (c : Nat) (B : Option Addr) (d : Nat) (b f : List Int) (A' : Option Addr) (c' : Nat) (B' : Option Addr) (d' : Nat) (b' f' : List Int) (x y step n : Int) (w : World)
    (hb : SI w w.heap.size .i64 A b) (hf : SI w w.heap.size .i64 B f) (hm1 : b.length ≤ 9223372036854775807) (hm2 : f.length ≤ 9223372036854775807)
    (hb' : SI w w.heap.size .i64 A' b') (hf' : SI w w.heap.size .i64 B' f') (hn1 : b'.length ≤ 9223372036854775807) (hn2 : f'.length ≤ 9223372036854775807)
    (_ : (Lit.int .i64 x).wf = true) (_ : (Lit.int .i64 y).wf = true) (_ : (Lit.int .i64 step).wf = true) (_ : (Lit.int .i64 n).wf = true) :
    Calls Try.prog 10 #[.agg #[.slice A b.length c, .slice B f.length d], .agg #[.slice A' b'.length c', .slice B' f'.length d'], .int .i64 x, .int .i64 y, .int .i64 step, .int .i64 n] w fun e w' => e = .returned (.bool true) ∧ Up w w' := by
  have M : ∀ (W : World) (g : Nat), g < W.heap.size → Blk W g 28 #[.slice A b.length c, .slice B f.length d, .slice A' b'.length c', .slice B' f'.length d'] → Calls Try.prog 14 #[.slice (some ⟨g, 0, none⟩) 2 2, .int .i64 2] W fun e w' => e = .returned (.bool (small ⟨A, b, c, B, f, d⟩ && small ⟨A', b', c', B', f', d'⟩)) ∧ W = w' := fun W g hg hW => by
    have := metrics_any (some ⟨g, 0, none⟩) 2 [⟨A, b, c, B, f, d⟩, ⟨A', b', c', B', f', d'⟩] 2 W.heap.size W (SM.two _ _ hW hg) (by simp) (by omega) (by simp; omega)
    rwa [metricsB_two] at this
  cases hs : (small ⟨A, b, c, B, f, d⟩ && small ⟨A', b', c', B', f', d'⟩) with
  | false =>
    rw [hs] at M
    have HM := Lib.hid M
    clear M hs
    go_enter Try.func10, Try.ntmps10
    go_wp2_with fail
    have b3 : Blk (((w.alloc (Obj.cells #[Value.slice A b.length c, Value.slice B f.length d] 28)).alloc (Obj.cells #[Value.slice A' b'.length c', Value.slice B' f'.length d'] 28)).alloc (Obj.cells #[Value.slice A b.length c, Value.slice B f.length d, Value.slice A' b'.length c', Value.slice B' f'.length d'] 28)) (w.heap.size + 1 + 1) 28 #[Value.slice A b.length c, Value.slice B f.length d, Value.slice A' b'.length c', Value.slice B' f'.length d'] := Blk.new' _ 28 _ (by simp)
    refine (HM.out _ _ b3.lt b3).mono ?_
    rintro e w1 ⟨rfl, rfl⟩
    go_wp2_with fail
    go_ret
    exact ⟨rfl, (((Below.refl _ _).alloc (Nat.le_refl _) _).alloc (by simp) _).alloc (by simp; omega) _⟩
  | true =>
    rw [hs] at M
    have HM := Lib.hid M
    clear M hs
    have C1 : Hid (∀ (W : World) (g h : Nat), Up w W → Blk W g 28 #[.slice A b.length c, .slice B f.length d, .slice A' b'.length c', .slice B' f'.length d'] → BI W h [x, y] → Calls Try.prog 22 #[.slice (some ⟨g, 0, none⟩) 2 2, .slice (some ⟨h, 0, none⟩) 2 2] W (RetC W (combV [(b, f), (b', f')] [x, y]))) :=
      Lib.hid fun W g h hU hW hh => combine_any (some ⟨g, 0, none⟩) 2 [⟨A, b, c, B, f, d⟩, ⟨A', b', c', B', f', d'⟩] (some ⟨h, 0, none⟩) 2 [x, y] W (SM.two _ _ hW hW.lt) (by
        intro m hm
        simp at hm
        rcases hm with rfl | rfl
        · exact ⟨hb.up hU, hf.up hU⟩
        · exact ⟨hb'.up hU, hf'.up hU⟩) (by
        intro m hm
        simp at hm
        rcases hm with rfl | rfl
        · exact ⟨hm1, hm2⟩
        · exact ⟨hn1, hn2⟩) (by simp) hh.si (by simp)
    have L := fun h => comb_linear (b0 := b) (f0 := f) (b1 := b') (f1 := f') (x := x) (y := y) step n h
    have LL := combV_lens' [(b, f), (b', f')] [x, y]
    have V1 := fun (W : World) (hU : Up w W) => cost_any A c B d b f step n W (hb.up hU) (hf.up hU) hm1 hm2
    have V2 := fun (W : World) (hU : Up w W) => cost_any A' c' B' d' b' f' step n W (hb'.up hU) (hf'.up hU) hn1 hn2
    obtain ⟨V, hV⟩ : ∃ V, V = combV [(b, f), (b', f')] [x, y] := ⟨_, rfl⟩
    rw [← hV] at C1 L LL
    obtain ⟨⟨xs, ys⟩, er⟩ := V
    dsimp only at L LL
    clear hV
    obtain ⟨c0, hc0⟩ : ∃ z, z = costV b f step n := ⟨_, rfl⟩
    obtain ⟨c1, hc1⟩ : ∃ z, z = costV b' f' step n := ⟨_, rfl⟩
    rw [← hc0] at L V1
    rw [← hc1] at L V2
    have HV1 := Lib.hid V1
    have HV2 := Lib.hid V2
    have HL := Lib.hid L
    clear V1 V2 L hc0 hc1
    go_enter Try.func10, Try.ntmps10
    go_wp2_with fail
    obtain ⟨w1, hw1⟩ : ∃ w1, w1 = ((w.alloc (Obj.cells #[Value.slice A b.length c, Value.slice B f.length d] 28)).alloc (Obj.cells #[Value.slice A' b'.length c', Value.slice B' f'.length d'] 28)).alloc (Obj.cells #[Value.slice A b.length c, Value.slice B f.length d, Value.slice A' b'.length c', Value.slice B' f'.length d'] 28) := ⟨_, rfl⟩
    have b1 : Blk w1 w.heap.size 28 #[Value.slice A b.length c, Value.slice B f.length d] := by rw [hw1]; exact ((Blk.new w _ _).alloc _).alloc _
    have b2 : Blk w1 (w.heap.size + 1) 28 #[Value.slice A' b'.length c', Value.slice B' f'.length d'] := by rw [hw1]; exact (Blk.new' (w.alloc _) 28 _ (by simp)).alloc _
    have b3 : Blk w1 (w.heap.size + 1 + 1) 28 #[Value.slice A b.length c, Value.slice B f.length d, Value.slice A' b'.length c', Value.slice B' f'.length d'] := by rw [hw1]; exact Blk.new' _ 28 _ (by simp)
    have U1 : Up w w1 := by rw [hw1]; exact (((Below.refl _ _).alloc (Nat.le_refl _) _).alloc (by simp) _).alloc (by simp; omega) _
    rw [← hw1]
    clear hw1
    refine (HM.out _ _ b3.lt b3).mono ?_
    rintro e w9 ⟨rfl, rfl⟩
    obtain ⟨g0, hg0⟩ : ∃ g, g = w.heap.size := ⟨_, rfl⟩
    obtain ⟨g1, hg1⟩ : ∃ g, g = w.heap.size + 1 := ⟨_, rfl⟩
    rw [← hg0] at b1
    rw [← hg1] at b2
    rw [← hg1, ← hg0]
    clear hg0 hg1 b3 HM
    obtain ⟨s0, s0b⟩ := duo b1
    obtain ⟨s1, s1b⟩ := duo b2
    go_wp2_with fail
    obtain ⟨w2, hw2⟩ : ∃ w2, w2 = (w1.alloc (Obj.cells #[Value.slice A b.length c, Value.slice B f.length d, Value.slice A' b'.length c', Value.slice B' f'.length d'] 28)).alloc (Obj.cells #[Value.int IntKind.i64 x, Value.int IntKind.i64 y] 2) := ⟨_, rfl⟩
    have D2 : Up w1 w2 := by rw [hw2]; exact ((Below.refl _ _).alloc (Nat.le_refl _) _).alloc (by simp) _
    have b4 : Blk w2 w1.heap.size 28 #[Value.slice A b.length c, Value.slice B f.length d, Value.slice A' b'.length c', Value.slice B' f'.length d'] := by rw [hw2]; exact (Blk.new w1 _ _).alloc _
    have b5 : BI w2 (w1.heap.size + 1) [x, y] := by rw [hw2]; exact Blk.new' (w1.alloc _) 2 _ (by simp)
    rw [← hw2]
    clear hw2
    refine (C1.out w2 _ _ (Up.trans U1 D2) b4 b5).mono ?_
    rintro e w3 ⟨X, cx, Y, cy, rfl, sx, sy, U3⟩
    have V3 := Up.trans U1 (Up.trans D2 U3)
    have b1' := Blk.up b1 (Up.trans D2 U3)
    have b2' := Blk.up b2 (Up.trans D2 U3)
    clear b4 b5 b1 b2 s0 s0b s1 s1b C1 D2 U3 U1
    by_cases he : er = 0
    · subst he
      obtain ⟨hq, ⟨x0, x1⟩, ⟨y0, y1⟩, ⟨z0, z1⟩, z2, z3⟩ := HL.out rfl
      have P0 := mul_bd (x := x) (n := c0) (M := 1000) (N := 5096000) x0 x1 z0 z1 (by omega) (by omega)
      have P1 := mul_bd (x := y) (n := c1) (M := 1000) (N := 5096000) y0 y1 z2 z3 (by omega) (by omega)
      have e1 : IntKind.i64.wrap (x * c0) = x * c0 := IntWalk.i64_in _ (by omega)
      have e2 : IntKind.i64.wrap (y * c1) = y * c1 := IntWalk.i64_in _ (by omega)
      have e3 : IntKind.i64.wrap (x * c0 + y * c1) = x * c0 + y * c1 := IntWalk.i64_in _ (by omega)
      have CQ := fun (W : World) (hU : Up w3 W) => cost_any X cx Y cy xs ys step n W (sx.up hU) (sy.up hU) (by omega) (by omega)
      rw [hq] at CQ
      have HQ := Lib.hid CQ
      have hne : ((0 : Int) != 0) = false := rfl
      clear CQ hq x0 x1 y0 y1 z0 z1 z2 z3 P0 P1 HL
      obtain ⟨w4, hw4⟩ : ∃ w4, w4 = w3.alloc (Obj.cells #[Value.slice X xs.length cx, Value.slice Y ys.length cy] 28) := ⟨_, rfl⟩
      have D4 : Up w3 w4 := by rw [hw4]; exact (Below.refl _ _).alloc (Nat.le_refl _) _
      have b6 : Blk w4 w3.heap.size 28 #[Value.slice X xs.length cx, Value.slice Y ys.length cy] := by rw [hw4]; exact Blk.new w3 _ _
      have HW4 := Lib.hid hw4
      clear hw4
      go_wp2_with fail
      rw [← HW4.out]
      clear HW4
      obtain ⟨g2, hg2⟩ : ∃ g, g = w3.heap.size := ⟨_, rfl⟩
      rw [← hg2] at b6 ⊢
      clear hg2
      have b7 := Blk.up b1' D4
      have b8 := Blk.up b2' D4
      have K4 : (w4.cell? ⟨g2, 0, none⟩ = some (Value.slice X xs.length cx) ∧ w4.cell? ⟨g2, 1, none⟩ = some (Value.slice Y ys.length cy)) ∧ (w4.cell? ⟨g0, 0, none⟩ = some (Value.slice A b.length c) ∧ w4.cell? ⟨g0, 1, none⟩ = some (Value.slice B f.length d)) ∧ (w4.cell? ⟨g1, 0, none⟩ = some (Value.slice A' b'.length c') ∧ w4.cell? ⟨g1, 1, none⟩ = some (Value.slice B' f'.length d')) := ⟨duo b6, duo b7, duo b8⟩
      have hK : ∀ W : World, Up w4 W → (W.cell? ⟨g2, 0, none⟩ = some (Value.slice X xs.length cx) ∧ W.cell? ⟨g2, 1, none⟩ = some (Value.slice Y ys.length cy)) ∧ (W.cell? ⟨g0, 0, none⟩ = some (Value.slice A b.length c) ∧ W.cell? ⟨g0, 1, none⟩ = some (Value.slice B f.length d)) ∧ (W.cell? ⟨g1, 0, none⟩ = some (Value.slice A' b'.length c') ∧ W.cell? ⟨g1, 1, none⟩ = some (Value.slice B' f'.length d')) := fun W hU => ⟨duo (Blk.up b6 hU), duo (Blk.up b7 hU), duo (Blk.up b8 hU)⟩
      have HK := Lib.hid hK
      have D40 := Up.refl w4
      clear b6 b7 b8 b1' b2' sx sy hK
      refine wp_region_noPanic ?_
      refine wp_region_sched (S := (fun wx => (wx.cell? ⟨g2, 0, none⟩ = some (Value.slice X xs.length cx) ∧ wx.cell? ⟨g2, 1, none⟩ = some (Value.slice Y ys.length cy)) ∧ (wx.cell? ⟨g0, 0, none⟩ = some (Value.slice A b.length c) ∧ wx.cell? ⟨g0, 1, none⟩ = some (Value.slice B f.length d)) ∧ (wx.cell? ⟨g1, 0, none⟩ = some (Value.slice A' b'.length c') ∧ wx.cell? ⟨g1, 1, none⟩ = some (Value.slice B' f'.length d')))) [(0, false), (1, false), (2, false), (4, false), (5, false), (6, false), (7, false), (10, false), (11, false), (12, false), (13, false), (3, true), (8, true), (9, false), (14, true), (15, false), (16, false), (17, false), (18, false), (19, true), (20, false), (21, false)] (by kernel_rfl) (by as_aux_lemma => kernel_rfl) (by as_aux_lemma => kernel_rfl) (by as_aux_lemma => kernel_rfl) (fun _ _ _ _ _ h => h) K4 ?_
      intro O1 HO1
      refine wpSched_take (i := 0) (v := ?v1x1) (by as_aux_lemma => rw [HO1.out]; simp only [List.getElem?_toArray, List.getElem?_cons_zero]; rfl) (Or.inl ⟨(by rfl), ?y1x1⟩) ?r1x1
      case y1x1 => as_aux_lemma => intro wx hSx; (try dsimp only at hSx); go_simp; try with_reducible rfl
      try simp only [Act.put, List.setIfInBounds_toArray, List.set_cons_zero, List.set_cons_succ]
      refine wpSched_take (i := 1) (v := ?v1x2) (by as_aux_lemma => rw [HO1.out]; simp only [List.getElem?_toArray, List.getElem?_cons_succ, List.getElem?_cons_zero]; rfl) (Or.inl ⟨(by rfl), ?y1x2⟩) ?r1x2
      case y1x2 => as_aux_lemma => intro wx hSx; (try dsimp only at hSx); go_simp; try with_reducible rfl
      try simp only [Act.put, List.setIfInBounds_toArray, List.set_cons_zero, List.set_cons_succ]
      refine wpSched_take (i := 2) (v := ?v1x3) (by as_aux_lemma => rw [HO1.out]; simp only [List.getElem?_toArray, List.getElem?_cons_succ, List.getElem?_cons_zero]; rfl) (Or.inl ⟨(by rfl), ?y1x3⟩) ?r1x3
      case y1x3 => as_aux_lemma => intro wx hSx; (try dsimp only at hSx); go_simp; try with_reducible rfl
      try simp only [Act.put, List.setIfInBounds_toArray, List.set_cons_zero, List.set_cons_succ]
      refine wpSched_take (i := 4) (v := ?v1x4) (by as_aux_lemma => rw [HO1.out]; simp only [List.getElem?_toArray, List.getElem?_cons_succ, List.getElem?_cons_zero]; rfl) (Or.inl ⟨(by rfl), ?y1x4⟩) ?r1x4
      case y1x4 => as_aux_lemma => intro wx hSx; (try dsimp only at hSx); go_simp; try with_reducible rfl
      try simp only [Act.put, List.setIfInBounds_toArray, List.set_cons_zero, List.set_cons_succ]
      refine wpSched_take (i := 5) (v := ?v1x5) (by as_aux_lemma => rw [HO1.out]; simp only [List.getElem?_toArray, List.getElem?_cons_succ, List.getElem?_cons_zero]; rfl) (Or.inl ⟨(by rfl), ?y1x5⟩) ?r1x5
      case y1x5 => as_aux_lemma => intro wx hSx; (try dsimp only at hSx); go_simp; try with_reducible rfl
      try simp only [Act.put, List.setIfInBounds_toArray, List.set_cons_zero, List.set_cons_succ]
      refine wpSched_take (i := 6) (v := ?v1x6) (by as_aux_lemma => rw [HO1.out]; simp only [List.getElem?_toArray, List.getElem?_cons_succ, List.getElem?_cons_zero]; rfl) (Or.inl ⟨(by rfl), ?y1x6⟩) ?r1x6
      case y1x6 => as_aux_lemma => intro wx hSx; (try dsimp only at hSx); go_simp; try with_reducible rfl
      try simp only [Act.put, List.setIfInBounds_toArray, List.set_cons_zero, List.set_cons_succ]
      refine wpSched_take (i := 7) (v := ?v1x7) (by as_aux_lemma => rw [HO1.out]; simp only [List.getElem?_toArray, List.getElem?_cons_succ, List.getElem?_cons_zero]; rfl) (Or.inl ⟨(by rfl), ?y1x7⟩) ?r1x7
      case y1x7 => as_aux_lemma => intro wx hSx; (try dsimp only at hSx); go_simp; try with_reducible rfl
      try simp only [Act.put, List.setIfInBounds_toArray, List.set_cons_zero, List.set_cons_succ]
      refine wpSched_take (i := 10) (v := ?v1x8) (by as_aux_lemma => rw [HO1.out]; simp only [List.getElem?_toArray, List.getElem?_cons_succ, List.getElem?_cons_zero]; rfl) (Or.inl ⟨(by rfl), ?y1x8⟩) ?r1x8
      case y1x8 => as_aux_lemma => intro wx hSx; (try dsimp only at hSx); go_simp; try with_reducible rfl
      try simp only [Act.put, List.setIfInBounds_toArray, List.set_cons_zero, List.set_cons_succ]
      refine wpSched_take (i := 11) (v := ?v1x9) (by as_aux_lemma => rw [HO1.out]; simp only [List.getElem?_toArray, List.getElem?_cons_succ, List.getElem?_cons_zero]; rfl) (Or.inl ⟨(by rfl), ?y1x9⟩) ?r1x9
      case y1x9 => as_aux_lemma => intro wx hSx; (try dsimp only at hSx); go_simp; try with_reducible rfl
      try simp only [Act.put, List.setIfInBounds_toArray, List.set_cons_zero, List.set_cons_succ]
      refine wpSched_take (i := 12) (v := ?v1x10) (by as_aux_lemma => rw [HO1.out]; simp only [List.getElem?_toArray, List.getElem?_cons_succ, List.getElem?_cons_zero]; rfl) (Or.inl ⟨(by rfl), ?y1x10⟩) ?r1x10
      case y1x10 => as_aux_lemma => intro wx hSx; (try dsimp only at hSx); go_simp; try with_reducible rfl
      try simp only [Act.put, List.setIfInBounds_toArray, List.set_cons_zero, List.set_cons_succ]
      refine wpSched_take (i := 13) (v := ?v1x11) (by as_aux_lemma => rw [HO1.out]; simp only [List.getElem?_toArray, List.getElem?_cons_succ, List.getElem?_cons_zero]; rfl) (Or.inl ⟨(by rfl), ?y1x11⟩) ?r1x11
      case y1x11 => as_aux_lemma => intro wx hSx; (try dsimp only at hSx); go_simp; try with_reducible rfl
      try simp only [Act.put, List.setIfInBounds_toArray, List.set_cons_zero, List.set_cons_succ]
      refine wpSched_call (i := 3) (by as_aux_lemma => rw [HO1.out]; simp only [List.getElem?_toArray, List.getElem?_cons_succ, List.getElem?_cons_zero]; rfl) (by rfl) (fun K' hK => ?_)
      go_simp
      try simp only [e1, e2, e3]
      refine (HQ.out _ (Up.trans D4 D40.drew)).mono ?_
      rintro e w5 ⟨rfl, hb5⟩
      have U5 : Up w4 w5 := Up.trans (D40.drew) hb5
      have K5 := HK.out _ U5
      go_wp2_with fail
      refine hK.out _ _ K5 (fun _ => ?_)
      clear hK K'
      try simp only [Act.put, List.setIfInBounds_toArray, List.set_cons_zero, List.set_cons_succ]
      refine wpSched_call (i := 8) (by as_aux_lemma => rw [HO1.out]; simp only [List.getElem?_toArray, List.getElem?_cons_succ, List.getElem?_cons_zero]; rfl) (by rfl) (fun K' hK => ?_)
      go_simp
      try simp only [e1, e2, e3]
      refine (HV1.out _ (Up.trans V3 (Up.trans D4 U5))).mono ?_
      rintro e w6 ⟨rfl, hb6⟩
      have U6 : Up w4 w6 := Up.trans (U5) hb6
      have K6 := HK.out _ U6
      go_wp2_with fail
      refine hK.out _ _ K6 (fun _ => ?_)
      clear hK K'
      try simp only [Act.put, List.setIfInBounds_toArray, List.set_cons_zero, List.set_cons_succ]
      refine wpSched_take (i := 9) (v := ?v1x12) (by as_aux_lemma => rw [HO1.out]; simp only [List.getElem?_toArray, List.getElem?_cons_succ, List.getElem?_cons_zero]; rfl) (Or.inl ⟨(by rfl), ?y1x12⟩) ?r1x12
      case y1x12 => as_aux_lemma => intro wx hSx; (try dsimp only at hSx); go_simp; try with_reducible rfl
      try simp only [Act.put, List.setIfInBounds_toArray, List.set_cons_zero, List.set_cons_succ]
      refine wpSched_call (i := 14) (by as_aux_lemma => rw [HO1.out]; simp only [List.getElem?_toArray, List.getElem?_cons_succ, List.getElem?_cons_zero]; rfl) (by rfl) (fun K' hK => ?_)
      go_simp
      try simp only [e1, e2, e3]
      refine (HV2.out _ (Up.trans V3 (Up.trans D4 U6))).mono ?_
      rintro e w7 ⟨rfl, hb7⟩
      have U7 : Up w4 w7 := Up.trans (U6) hb7
      have K7 := HK.out _ U7
      go_wp2_with fail
      refine hK.out _ _ K7 (fun _ => ?_)
      clear hK K'
      try simp only [Act.put, List.setIfInBounds_toArray, List.set_cons_zero, List.set_cons_succ]
      refine wpSched_take (i := 15) (v := ?v1x13) (by as_aux_lemma => rw [HO1.out]; simp only [List.getElem?_toArray, List.getElem?_cons_succ, List.getElem?_cons_zero]; rfl) (Or.inl ⟨(by rfl), ?y1x13⟩) ?r1x13
      case y1x13 => as_aux_lemma => intro wx hSx; (try dsimp only at hSx); go_simp; try with_reducible rfl
      try simp only [Act.put, List.setIfInBounds_toArray, List.set_cons_zero, List.set_cons_succ]
      refine wpSched_take (i := 16) (v := ?v1x14) (by as_aux_lemma => rw [HO1.out]; simp only [List.getElem?_toArray, List.getElem?_cons_succ, List.getElem?_cons_zero]; rfl) (Or.inl ⟨(by rfl), ?y1x14⟩) ?r1x14
      case y1x14 => as_aux_lemma => intro wx hSx; (try dsimp only at hSx); go_simp; try with_reducible rfl
      try simp only [Act.put, List.setIfInBounds_toArray, List.set_cons_zero, List.set_cons_succ]
      refine wpSched_take (i := 17) (v := ?v1x15) (by as_aux_lemma => rw [HO1.out]; simp only [List.getElem?_toArray, List.getElem?_cons_succ, List.getElem?_cons_zero]; rfl) (Or.inl ⟨(by rfl), ?y1x15⟩) ?r1x15
      case y1x15 => as_aux_lemma => intro wx hSx; (try dsimp only at hSx); go_simp; try with_reducible rfl
      try simp only [Act.put, List.setIfInBounds_toArray, List.set_cons_zero, List.set_cons_succ]
      refine wpSched_take (i := 18) (v := ?v1x16) (by as_aux_lemma => rw [HO1.out]; simp only [List.getElem?_toArray, List.getElem?_cons_succ, List.getElem?_cons_zero]; rfl) (Or.inl ⟨(by rfl), ?y1x16⟩) ?r1x16
      case y1x16 => as_aux_lemma => intro wx hSx; (try dsimp only at hSx); go_simp; try with_reducible rfl
      try simp only [Act.put, List.setIfInBounds_toArray, List.set_cons_zero, List.set_cons_succ]
      refine wpSched_call (i := 19) (by as_aux_lemma => rw [HO1.out]; simp only [List.getElem?_toArray, List.getElem?_cons_succ, List.getElem?_cons_zero]; rfl) (by as_aux_lemma => rw [HO1.out]; rfl) (fun K' hK => ?_)
      go_simp
      try simp only [e1, e2, e3]
      refine (awake_any _).mono ?_
      rintro e w8 ⟨rfl, hb8⟩
      have U8 := Up.trans U7 hb8
      have K8 := HK.out _ U8
      go_wp2_with fail
      refine hK.out _ _ K8 (fun _ => ?_)
      clear hK K'
      try simp only [Act.put, List.setIfInBounds_toArray, List.set_cons_zero, List.set_cons_succ]
      refine wpSched_take (i := 20) (v := ?v1x17) (by as_aux_lemma => rw [HO1.out]; simp only [List.getElem?_toArray, List.getElem?_cons_succ, List.getElem?_cons_zero]; rfl) (Or.inl ⟨(by rfl), ?y1x17⟩) ?r1x17
      case y1x17 => as_aux_lemma => intro wx hSx; (try dsimp only at hSx); go_simp; try with_reducible rfl
      try simp only [Act.put, List.setIfInBounds_toArray, List.set_cons_zero, List.set_cons_succ]
      refine wpSched_take (i := 21) (v := ?v1x18) (by as_aux_lemma => rw [HO1.out]; simp only [List.getElem?_toArray, List.getElem?_cons_succ, List.getElem?_cons_zero]; rfl) (Or.inl ⟨(by rfl), ?y1x18⟩) ?r1x18
      case y1x18 => as_aux_lemma => intro wx hSx; (try dsimp only at hSx); go_simp; try with_reducible rfl
      try simp only [Act.put, List.setIfInBounds_toArray, List.set_cons_zero, List.set_cons_succ]
      refine wpSched_end (NoPanic.normal ?_)
      clear HO1 O1
      go_wp2_with fail
      go_ret
      exact ⟨rfl, Up.trans V3 (Up.trans D4 U8)⟩
    · have hne : (er != 0) = true := by simpa using he
      clear HL he
      have D4 : Up w3 (w3.alloc (Obj.cells #[Value.slice X xs.length cx, Value.slice Y ys.length cy] 28)) := (Below.refl _ _).alloc (Nat.le_refl _) _
      have UU := Lib.hid (Up.trans V3 D4)
      clear D4 V3
      go_wp2_with fail
      refine (awake_any _).mono ?_
      rintro e w7 ⟨rfl, U7⟩
      go_wp2_with fail
      go_ret
      exact ⟨rfl, Up.trans UU.out U7⟩

open Go.ChangeShapes Go.WideShapes Go.ChangeAt Go.Joins
open Go.ChangeMaps (open_string shut_string)
set_option maxRecDepth 100000 in
theorem MetricLinear.lifted (os : Os) (started : os.Started) (H : Type) (enc : TypeId × Value → H) :
    ReturnsInHanded {} Try.checked os 10 .any (Rows.metricLinearSpec.pre6 enc Try.prog Try.f10 Rows.metricLinearRow.domain false) (Rows.metricLinearSpec.post enc Try.prog Try.f10 false true false false) := by
  refine returnsInHanded_of_change (C := Try.checked) own started (by kernel_rfl) Try.func10
    (ChangeSpec.witness6 (enc := enc) (C := Try.checked) false ⟨#[], #[.agg #[.slice none 0 0, .slice none 0 0], .agg #[.slice none 0 0, .slice none 0 0], .int .i64 0, .int .i64 0, .int .i64 0, .int .i64 0], []⟩ 8 (by kernel_rfl) (by kernel_rfl) (by kernel_rfl) (by kernel_rfl)) ?_
  intro W base args ds gs before hval0 hW hcnd _
  have hval : ∀ (j : Nat) t v, Try.f10.params[j]? = some t → args[j]? = some v → Value.okWide Try.prog W .any base t v := hval0
  have hW' := hW
  obtain ⟨p, q, hA0, hV, rfl, hfz, hnd⟩ := hW
  have hA : DataW.TrodAll enc Try.prog W 0 (fun _ => true) true Try.f10.params.toList args.toList ds p := hA0
  rw [Try.params10] at hA hval
  obtain ⟨v0, vs0, d0, ds0, p0, q0, hargs, rfl, rfl, h0, r0⟩ := trodAll_cons hA
  obtain ⟨v1, vs1, d1, ds1, p1, q1, rfl, rfl, rfl, h1, r1⟩ := trodAll_cons r0
  obtain ⟨v2, vs2, d2, ds2, p2, q2, rfl, rfl, rfl, h2, r2⟩ := trodAll_cons r1
  obtain ⟨v3, vs3, d3, ds3, p3, q3, rfl, rfl, rfl, h3, r3⟩ := trodAll_cons r2
  obtain ⟨v4, vs4, d4, ds4, p4, q4, rfl, rfl, rfl, h4, r4⟩ := trodAll_cons r3
  obtain ⟨v5, vs5, d5, ds5, p5, q5, rfl, rfl, rfl, h5, r5⟩ := trodAll_cons r4
  obtain ⟨rfl, rfl, rfl⟩ := trodAll_nil r5
  obtain rfl : args = #[v0, v1, v2, v3, v4, v5] := by cases args; simp_all
  obtain ⟨rfl, rfl⟩ := trodVars_none hV
  have k0 := h0
  have lt0 : ∀ x ∈ p0, x.block < W.heap.size := by obtain ⟨m, hm⟩ := k0; exact DataW.trod_lt m _ _ _ hm
  have k1 := h1
  have lt1 : ∀ x ∈ p1, x.block < W.heap.size := by obtain ⟨m, hm⟩ := k1; exact DataW.trod_lt m _ _ _ hm
  have k2 := h2
  have lt2 : ∀ x ∈ p2, x.block < W.heap.size := by obtain ⟨m, hm⟩ := k2; exact DataW.trod_lt m _ _ _ hm
  have k3 := h3
  have lt3 : ∀ x ∈ p3, x.block < W.heap.size := by obtain ⟨m, hm⟩ := k3; exact DataW.trod_lt m _ _ _ hm
  have k4 := h4
  have lt4 : ∀ x ∈ p4, x.block < W.heap.size := by obtain ⟨m, hm⟩ := k4; exact DataW.trod_lt m _ _ _ hm
  have k5 := h5
  have lt5 : ∀ x ∈ p5, x.block < W.heap.size := by obtain ⟨m, hm⟩ := k5; exact DataW.trod_lt m _ _ _ hm
  obtain ⟨c0, e0, y0, z0, m0, hv0, _, _, hy0, hz0⟩ := open_agg2 Try.underlying28 (by kernel_rfl) (by kernel_rfl) (hval 0 28 v0 rfl rfl) h0
  obtain ⟨A0, ca0, b0, rfl, sA0, la0, ma0, _⟩ := ints_in Try.underlying22 Try.underlying2 (by kernel_rfl) hy0
  obtain ⟨B0, cb0, f0, rfl, sB0, lb0, mb0, _⟩ := ints_in Try.underlying22 Try.underlying2 (by kernel_rfl) hz0
  obtain ⟨c1, e1, y1, z1, m1, hv1, _, _, hy1, hz1⟩ := open_agg2 Try.underlying28 (by kernel_rfl) (by kernel_rfl) (hval 1 28 v1 rfl rfl) h1
  obtain ⟨A1, ca1, b1, rfl, sA1, la1, ma1, _⟩ := ints_in Try.underlying22 Try.underlying2 (by kernel_rfl) hy1
  obtain ⟨B1, cb1, f1, rfl, sB1, lb1, mb1, _⟩ := ints_in Try.underlying22 Try.underlying2 (by kernel_rfl) hz1
  obtain ⟨x2, rfl, rfl, rfl, wx2⟩ := open_int Try.underlying2 (hval 2 2 v2 rfl rfl) h2
  obtain ⟨x3, rfl, rfl, rfl, wx3⟩ := open_int Try.underlying2 (hval 3 2 v3 rfl rfl) h3
  obtain ⟨x4, rfl, rfl, rfl, wx4⟩ := open_int Try.underlying3 (hval 4 3 v4 rfl rfl) h4
  obtain ⟨x5, rfl, rfl, rfl, wx5⟩ := open_int Try.underlying2 (hval 5 2 v5 rfl rfl) h5
  subst hv0 hv1
  clear hA0 hval0
  refine (MetricLinear_walk A0 ca0 B0 cb0 b0 f0 A1 ca1 B1 cb1 b1 f1 x2 x3 x4 x5 W sA0 sB0 (by omega) (by omega) sA1 sB1 (by omega) (by omega) wx2 wx3 wx4 wx5).mono fun e W' ⟨he, bel⟩ => ?_
  subst he
  exact ⟨_, rfl, _, _, _, [], _, [], hW', trodAll_mk1 (shut_bool Try.underlying4 _), (trodAll_cons_mk (Below.trod laidOut (by kernel_rfl) (of_decide_eq_true (by kernel_rfl)) k0 bel lt0) (trodAll_cons_mk (Below.trod laidOut (by kernel_rfl) (of_decide_eq_true (by kernel_rfl)) k1 bel lt1) (trodAll_cons_mk (Below.trod laidOut (by kernel_rfl) (of_decide_eq_true (by kernel_rfl)) k2 bel lt2) (trodAll_cons_mk (Below.trod laidOut (by kernel_rfl) (of_decide_eq_true (by kernel_rfl)) k3 bel lt3) (trodAll_cons_mk (Below.trod laidOut (by kernel_rfl) (of_decide_eq_true (by kernel_rfl)) k4 bel lt4) (trodAll_cons_mk (Below.trod laidOut (by kernel_rfl) (of_decide_eq_true (by kernel_rfl)) k5 bel lt5) trodAll_mk0)))))), rfl, bel.frame _, fun h => by cases h⟩

theorem MetricLinear.over : Rows.metricLinearRow.holds Try.pinned (OpenSpec.ofChange Rows.metricLinearSpec) :=
  OpenClaim.holds_of_wide 10 Try.f10 rfl rfl rfl rfl rfl rfl rfl ⟨rfl, rfl, rfl, rfl, rfl⟩ rfl rfl rfl rfl rfl (by kernel_rfl) Try.func10 (by kernel_rfl)
    (of_decide_eq_true (by kernel_rfl)) (by unfold Func.isWrapper; first | (rw [if_pos (by decide +kernel)]; kernel_rfl) | (rw [if_neg (by decide +kernel)]; exact ⟨rfl, rfl⟩))
    (fun os started H enc _ => MetricLinear.lifted os started H enc)

theorem MetricLinear_holds : Rows.MetricLinearSaid := MetricLinear.over
end Go.Proofs.Ytnaeabkknmoaeaa
