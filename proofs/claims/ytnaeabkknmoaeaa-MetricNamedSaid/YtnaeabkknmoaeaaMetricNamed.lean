/-
  MetricNamed: the law returns true. It takes no input.
-/
import Derived.Test.YtnaeabkknmoaeaaMNamed3
import Derived.Test.YtnaeabkknmoaeaaMSame
namespace Go.Proofs.Ytnaeabkknmoaeaa
open Go.RowKit

theorem sameM {W : World} {g h g' h' : Nat} {b f : List Int} (hb : b.length = 26) (hf : f.length = 26) (B : BI W g b) (H : BI W h f) (B' : BI W g' b) (H' : BI W h' f) :
    Calls Try.prog 24 #[.agg #[.slice (some ⟨g, 0, none⟩) 26 26, .slice (some ⟨h, 0, none⟩) 26 26], .agg #[.slice (some ⟨g', 0, none⟩) 26 26, .slice (some ⟨h', 0, none⟩) 26 26]] W fun e w' => e = .returned (.bool true) ∧ Up W w' := by
  have := sameMetric_any (some ⟨g, 0, none⟩) 26 b (some ⟨h, 0, none⟩) 26 f (some ⟨g', 0, none⟩) 26 b (some ⟨h', 0, none⟩) 26 f W B.si H.si B'.si H'.si (by omega) (by omega) (by omega) (by omega)
  rw [hb, hf, show decide ((b, f) = (b, f)) = true by simp] at this
  exact this
theorem validM {W : World} {g h : Nat} {b f : List Int} (hb : b.length = 26) (hf : f.length = 26) (hv : validB b f = true) (B : BI W g b) (H : BI W h f) :
    Calls Try.prog 15 #[.agg #[.slice (some ⟨g, 0, none⟩) 26 26, .slice (some ⟨h, 0, none⟩) 26 26]] W fun e w' => e = .returned (.bool true) ∧ Up W w' := by
  have := valid_any (some ⟨g, 0, none⟩) 26 (some ⟨h, 0, none⟩) 26 b f W B.si H.si (by omega) (by omega)
  rw [hb, hf, hv] at this
  exact this

set_option maxRecDepth 100000 in
set_option maxHeartbeats 12800000 in
theorem MetricNamed_walk (w0 : World) : Calls Try.prog 11 #[] w0 fun e w' => e = .returned (.bool true) ∧ Up w0 w' := by
  go_enter Try.func11, Try.ntmps11
  go_wp2_with fail
  refine (time_any _).mono ?_
  rintro e w1 ⟨g0, h0, rfl, B0, H0, -, -, -, U0⟩
  have M0 : Hid (BI w1 g0 timeB ∧ BI w1 h0 zero26) := Lib.hid (And.intro B0 H0)
  clear B0 H0
  go_wp2_with fail
  refine (calls_any _).mono ?_
  rintro e w2 ⟨g1, h1, rfl, B1, H1, -, -, -, U1⟩
  have M1 : Hid (BI w2 g1 callsB ∧ BI w2 h1 zero26) := Lib.hid (And.intro B1 H1)
  clear B1 H1
  go_wp2_with fail
  refine (stackM_any _).mono ?_
  rintro e w3 ⟨g2, h2, rfl, B2, H2, -, -, -, U2⟩
  have M2 : Hid (BI w3 g2 stackB ∧ BI w3 h2 zero26) := Lib.hid (And.intro B2 H2)
  clear B2 H2
  go_wp2_with fail
  refine (heap_any _).mono ?_
  rintro e w4 ⟨g3, h3, rfl, B3, H3, -, -, -, U3⟩
  have M3 : Hid (BI w4 g3 heapB ∧ BI w4 h3 heapF) := Lib.hid (And.intro B3 H3)
  clear B3 H3
  go_wp2_with fail
  refine (garbage_any _).mono ?_
  rintro e w5 ⟨g4, h4, rfl, B4, H4, -, -, -, U4⟩
  have M4 : Hid (BI w5 g4 garbageB ∧ BI w5 h4 garbageF) := Lib.hid (And.intro B4 H4)
  clear B4 H4
  go_wp2_with fail
  refine (ticks_any _).mono ?_
  rintro e w6 ⟨g5, h5, rfl, B5, H5, -, -, -, U5⟩
  have M5 : Hid (BI w6 g5 ticksB ∧ BI w6 h5 zero26) := Lib.hid (And.intro B5 H5)
  clear B5 H5
  go_wp2_with fail
  refine (free_any _).mono ?_
  rintro e w7 ⟨g6, h6, rfl, B6, H6, -, -, -, U6⟩
  have M6 : Hid (BI w7 g6 zero26 ∧ BI w7 h6 zero26) := Lib.hid (And.intro B6 H6)
  clear B6 H6
  have D7 := Below.refl w7.heap.size w7
  have A7 := Blk.new w7 28 #[Value.slice (some ⟨g0, 0, none⟩) 26 26, Value.slice (some ⟨h0, 0, none⟩) 26 26, Value.slice (some ⟨g1, 0, none⟩) 26 26, Value.slice (some ⟨h1, 0, none⟩) 26 26, Value.slice (some ⟨g2, 0, none⟩) 26 26, Value.slice (some ⟨h2, 0, none⟩) 26 26, Value.slice (some ⟨g3, 0, none⟩) 26 26, Value.slice (some ⟨h3, 0, none⟩) 26 26, Value.slice (some ⟨g4, 0, none⟩) 26 26, Value.slice (some ⟨h4, 0, none⟩) 26 26, Value.slice (some ⟨g5, 0, none⟩) 26 26, Value.slice (some ⟨h5, 0, none⟩) 26 26, Value.slice (some ⟨g6, 0, none⟩) 26 26, Value.slice (some ⟨h6, 0, none⟩) 26 26]
  obtain ⟨ga, hga⟩ : ∃ g, g = w7.heap.size := ⟨_, rfl⟩
  rw [← hga] at A7
  have HGA := Lib.hid hga
  clear hga
  have E7 : Up w7 (w7.alloc (Obj.cells #[Value.slice (some ⟨g0, 0, none⟩) 26 26, Value.slice (some ⟨h0, 0, none⟩) 26 26, Value.slice (some ⟨g1, 0, none⟩) 26 26, Value.slice (some ⟨h1, 0, none⟩) 26 26, Value.slice (some ⟨g2, 0, none⟩) 26 26, Value.slice (some ⟨h2, 0, none⟩) 26 26, Value.slice (some ⟨g3, 0, none⟩) 26 26, Value.slice (some ⟨h3, 0, none⟩) 26 26, Value.slice (some ⟨g4, 0, none⟩) 26 26, Value.slice (some ⟨h4, 0, none⟩) 26 26, Value.slice (some ⟨g5, 0, none⟩) 26 26, Value.slice (some ⟨h5, 0, none⟩) 26 26, Value.slice (some ⟨g6, 0, none⟩) 26 26, Value.slice (some ⟨h6, 0, none⟩) 26 26] 28)) := (Below.refl _ w7).alloc (Nat.le_refl _) _
  go_wp2_with fail
  rw [← HGA.out]
  obtain ⟨wa, hwa⟩ : ∃ x, x = w7.alloc (Obj.cells #[Value.slice (some ⟨g0, 0, none⟩) 26 26, Value.slice (some ⟨h0, 0, none⟩) 26 26, Value.slice (some ⟨g1, 0, none⟩) 26 26, Value.slice (some ⟨h1, 0, none⟩) 26 26, Value.slice (some ⟨g2, 0, none⟩) 26 26, Value.slice (some ⟨h2, 0, none⟩) 26 26, Value.slice (some ⟨g3, 0, none⟩) 26 26, Value.slice (some ⟨h3, 0, none⟩) 26 26, Value.slice (some ⟨g4, 0, none⟩) 26 26, Value.slice (some ⟨h4, 0, none⟩) 26 26, Value.slice (some ⟨g5, 0, none⟩) 26 26, Value.slice (some ⟨h5, 0, none⟩) 26 26, Value.slice (some ⟨g6, 0, none⟩) 26 26, Value.slice (some ⟨h6, 0, none⟩) 26 26] 28) := ⟨_, rfl⟩
  rw [← hwa] at A7 E7 ⊢
  clear hwa D7 HGA
  refine (refTime_any _).mono ?_
  rintro e w8 ⟨g7, h7, rfl, B7, H7, -, -, -, U7⟩
  have M7 : Hid (BI w8 g7 timeB ∧ BI w8 h7 zero26) := Lib.hid (And.intro B7 H7)
  clear B7 H7
  go_wp2_with fail
  refine (refCalls_any _).mono ?_
  rintro e w9 ⟨g8, h8, rfl, B8, H8, -, -, -, U8⟩
  have M8 : Hid (BI w9 g8 callsB ∧ BI w9 h8 zero26) := Lib.hid (And.intro B8 H8)
  clear B8 H8
  go_wp2_with fail
  refine (refStack_any _).mono ?_
  rintro e w10 ⟨g9, h9, rfl, B9, H9, -, -, -, U9⟩
  have M9 : Hid (BI w10 g9 stackB ∧ BI w10 h9 zero26) := Lib.hid (And.intro B9 H9)
  clear B9 H9
  go_wp2_with fail
  refine (refHeap_any _).mono ?_
  rintro e w11 ⟨g10, h10, rfl, B10, H10, -, -, -, U10⟩
  have M10 : Hid (BI w11 g10 heapB ∧ BI w11 h10 heapF) := Lib.hid (And.intro B10 H10)
  clear B10 H10
  go_wp2_with fail
  refine (refGarbage_any _).mono ?_
  rintro e w12 ⟨g11, h11, rfl, B11, H11, -, -, -, U11⟩
  have M11 : Hid (BI w12 g11 garbageB ∧ BI w12 h11 garbageF) := Lib.hid (And.intro B11 H11)
  clear B11 H11
  go_wp2_with fail
  refine (refTicks_any _).mono ?_
  rintro e w13 ⟨g12, h12, rfl, B12, H12, -, -, -, U12⟩
  have M12 : Hid (BI w13 g12 ticksB ∧ BI w13 h12 zero26) := Lib.hid (And.intro B12 H12)
  clear B12 H12
  go_wp2_with fail
  refine (refFree_any _).mono ?_
  rintro e w14 ⟨g13, h13, rfl, B13, H13, -, -, -, U13⟩
  have M13 : Hid (BI w14 g13 zero26 ∧ BI w14 h13 zero26) := Lib.hid (And.intro B13 H13)
  clear B13 H13
  have A14 := Blk.new w14 28 #[Value.slice (some ⟨g7, 0, none⟩) 26 26, Value.slice (some ⟨h7, 0, none⟩) 26 26, Value.slice (some ⟨g8, 0, none⟩) 26 26, Value.slice (some ⟨h8, 0, none⟩) 26 26, Value.slice (some ⟨g9, 0, none⟩) 26 26, Value.slice (some ⟨h9, 0, none⟩) 26 26, Value.slice (some ⟨g10, 0, none⟩) 26 26, Value.slice (some ⟨h10, 0, none⟩) 26 26, Value.slice (some ⟨g11, 0, none⟩) 26 26, Value.slice (some ⟨h11, 0, none⟩) 26 26, Value.slice (some ⟨g12, 0, none⟩) 26 26, Value.slice (some ⟨h12, 0, none⟩) 26 26, Value.slice (some ⟨g13, 0, none⟩) 26 26, Value.slice (some ⟨h13, 0, none⟩) 26 26]
  have E14 : Up w14 (w14.alloc (Obj.cells #[Value.slice (some ⟨g7, 0, none⟩) 26 26, Value.slice (some ⟨h7, 0, none⟩) 26 26, Value.slice (some ⟨g8, 0, none⟩) 26 26, Value.slice (some ⟨h8, 0, none⟩) 26 26, Value.slice (some ⟨g9, 0, none⟩) 26 26, Value.slice (some ⟨h9, 0, none⟩) 26 26, Value.slice (some ⟨g10, 0, none⟩) 26 26, Value.slice (some ⟨h10, 0, none⟩) 26 26, Value.slice (some ⟨g11, 0, none⟩) 26 26, Value.slice (some ⟨h11, 0, none⟩) 26 26, Value.slice (some ⟨g12, 0, none⟩) 26 26, Value.slice (some ⟨h12, 0, none⟩) 26 26, Value.slice (some ⟨g13, 0, none⟩) 26 26, Value.slice (some ⟨h13, 0, none⟩) 26 26] 28)) := (Below.refl _ w14).alloc (Nat.le_refl _) _
  go_wp2_with fail
  obtain ⟨gb, hgb⟩ : ∃ g, g = w14.heap.size := ⟨_, rfl⟩
  obtain ⟨w, hw⟩ : ∃ x, x = w14.alloc (Obj.cells #[Value.slice (some ⟨g7, 0, none⟩) 26 26, Value.slice (some ⟨h7, 0, none⟩) 26 26, Value.slice (some ⟨g8, 0, none⟩) 26 26, Value.slice (some ⟨h8, 0, none⟩) 26 26, Value.slice (some ⟨g9, 0, none⟩) 26 26, Value.slice (some ⟨h9, 0, none⟩) 26 26, Value.slice (some ⟨g10, 0, none⟩) 26 26, Value.slice (some ⟨h10, 0, none⟩) 26 26, Value.slice (some ⟨g11, 0, none⟩) 26 26, Value.slice (some ⟨h11, 0, none⟩) 26 26, Value.slice (some ⟨g12, 0, none⟩) 26 26, Value.slice (some ⟨h12, 0, none⟩) 26 26, Value.slice (some ⟨g13, 0, none⟩) 26 26, Value.slice (some ⟨h13, 0, none⟩) 26 26] 28) := ⟨_, rfl⟩
  rw [← hw, ← hgb] at A14
  rw [← hw] at E14
  rw [← hw, ← hgb]
  clear hw hgb
  have K14 : Up w14 w := E14
  have K13 : Up w13 w := Up.trans U13 K14
  have K12 : Up w12 w := Up.trans U12 K13
  have K11 : Up w11 w := Up.trans U11 K12
  have K10 : Up w10 w := Up.trans U10 K11
  have K9 : Up w9 w := Up.trans U9 K10
  have K8 : Up w8 w := Up.trans U8 K9
  have KA : Up wa w := Up.trans U7 K8
  have K7 : Up w7 w := Up.trans E7 KA
  have K6 : Up w6 w := Up.trans U6 K7
  have K5 : Up w5 w := Up.trans U5 K6
  have K4 : Up w4 w := Up.trans U4 K5
  have K3 : Up w3 w := Up.trans U3 K4
  have K2 : Up w2 w := Up.trans U2 K3
  have K1 : Up w1 w := Up.trans U1 K2
  have K0 : Up w0 w := Up.trans U0 K1
  have N0 : Hid (∀ W : World, Up w W → BI W g0 timeB ∧ BI W h0 zero26) := Lib.hid fun W hU => ⟨(M0.out.1.up K1).up hU, (M0.out.2.up K1).up hU⟩
  have N1 : Hid (∀ W : World, Up w W → BI W g1 callsB ∧ BI W h1 zero26) := Lib.hid fun W hU => ⟨(M1.out.1.up K2).up hU, (M1.out.2.up K2).up hU⟩
  have N2 : Hid (∀ W : World, Up w W → BI W g2 stackB ∧ BI W h2 zero26) := Lib.hid fun W hU => ⟨(M2.out.1.up K3).up hU, (M2.out.2.up K3).up hU⟩
  have N3 : Hid (∀ W : World, Up w W → BI W g3 heapB ∧ BI W h3 heapF) := Lib.hid fun W hU => ⟨(M3.out.1.up K4).up hU, (M3.out.2.up K4).up hU⟩
  have N4 : Hid (∀ W : World, Up w W → BI W g4 garbageB ∧ BI W h4 garbageF) := Lib.hid fun W hU => ⟨(M4.out.1.up K5).up hU, (M4.out.2.up K5).up hU⟩
  have N5 : Hid (∀ W : World, Up w W → BI W g5 ticksB ∧ BI W h5 zero26) := Lib.hid fun W hU => ⟨(M5.out.1.up K6).up hU, (M5.out.2.up K6).up hU⟩
  have N6 : Hid (∀ W : World, Up w W → BI W g6 zero26 ∧ BI W h6 zero26) := Lib.hid fun W hU => ⟨(M6.out.1.up K7).up hU, (M6.out.2.up K7).up hU⟩
  have N7 : Hid (∀ W : World, Up w W → BI W g7 timeB ∧ BI W h7 zero26) := Lib.hid fun W hU => ⟨(M7.out.1.up K8).up hU, (M7.out.2.up K8).up hU⟩
  have N8 : Hid (∀ W : World, Up w W → BI W g8 callsB ∧ BI W h8 zero26) := Lib.hid fun W hU => ⟨(M8.out.1.up K9).up hU, (M8.out.2.up K9).up hU⟩
  have N9 : Hid (∀ W : World, Up w W → BI W g9 stackB ∧ BI W h9 zero26) := Lib.hid fun W hU => ⟨(M9.out.1.up K10).up hU, (M9.out.2.up K10).up hU⟩
  have N10 : Hid (∀ W : World, Up w W → BI W g10 heapB ∧ BI W h10 heapF) := Lib.hid fun W hU => ⟨(M10.out.1.up K11).up hU, (M10.out.2.up K11).up hU⟩
  have N11 : Hid (∀ W : World, Up w W → BI W g11 garbageB ∧ BI W h11 garbageF) := Lib.hid fun W hU => ⟨(M11.out.1.up K12).up hU, (M11.out.2.up K12).up hU⟩
  have N12 : Hid (∀ W : World, Up w W → BI W g12 ticksB ∧ BI W h12 zero26) := Lib.hid fun W hU => ⟨(M12.out.1.up K13).up hU, (M12.out.2.up K13).up hU⟩
  have N13 : Hid (∀ W : World, Up w W → BI W g13 zero26 ∧ BI W h13 zero26) := Lib.hid fun W hU => ⟨(M13.out.1.up K14).up hU, (M13.out.2.up K14).up hU⟩
  have HA := Lib.hid (A7.up KA)
  have HB := Lib.hid A14
  have HU := Lib.hid K0
  clear M0 U0 M1 U1 M2 U2 M3 U3 M4 U4 M5 U5 M6 U6 M7 U7 M8 U8 M9 U9 M10 U10 M11 U11 M12 U12 M13 U13 K0 K1 K2 K3 K4 K5 K6 K7 K8 K9 K10 K11 K12 K13 K14 KA A7 A14 E7 E14
  go_loopw [22] (fun sv wr => ∃ i : Nat, i ≤ 7 ∧ sv = .int .i64 i ∧ Up w wr) (fun sv _ => 7 - (intOf sv).toNat)
  case atStart => exact ⟨0, by omega, rfl, Up.refl _⟩
  case round =>
    obtain ⟨i, hi, rfl, U⟩ := hrel
    rcases (show i = 0 ∨ i = 1 ∨ i = 2 ∨ i = 3 ∨ i = 4 ∨ i = 5 ∨ i = 6 ∨ i = 7 by omega) with rfl | rfl | rfl | rfl | rfl | rfl | rfl | rfl
    · have HK : Hid (∀ W : World, Up w W → (W.cell? ⟨ga, 0, none⟩ = some (Value.slice (some ⟨g0, 0, none⟩) 26 26) ∧ W.cell? ⟨ga, 1, none⟩ = some (Value.slice (some ⟨h0, 0, none⟩) 26 26)) ∧ (W.cell? ⟨gb, 0, none⟩ = some (Value.slice (some ⟨g7, 0, none⟩) 26 26) ∧ W.cell? ⟨gb, 1, none⟩ = some (Value.slice (some ⟨h7, 0, none⟩) 26 26))) := Lib.hid fun W hU => by
        have a0 := (HA.out.up hU).cell 0
        have a1 := (HA.out.up hU).cell 1
        have b0 := (HB.out.up hU).cell 0
        have b1 := (HB.out.up hU).cell 1
        simp at a0 a1 b0 b1
        exact ⟨⟨a0, a1⟩, b0, b1⟩
      have S1 := Lib.hid (fun (W : World) (hU : Up w W) => sameM (by decide) (by decide) (N0.out W hU).1 (N0.out W hU).2 (N7.out W hU).1 (N7.out W hU).2)
      have S2 := Lib.hid (fun (W : World) (hU : Up w W) => validM (b := timeB) (f := zero26) (by decide) (by decide) (by decide) (N0.out W hU).1 (N0.out W hU).2)
      clear N0 N1 N2 N3 N4 N5 N6 N7 N8 N9 N10 N11 N12 N13 HA HB
      have s0 := HK.out _ U
      go_wp2_with fail
      refine wp_region_noPanic ?_
      refine wp_region_sched (S := (fun wx => (wx.cell? ⟨ga, 0, none⟩ = some (Value.slice (some ⟨g0, 0, none⟩) 26 26) ∧ wx.cell? ⟨ga, 1, none⟩ = some (Value.slice (some ⟨h0, 0, none⟩) 26 26)) ∧ (wx.cell? ⟨gb, 0, none⟩ = some (Value.slice (some ⟨g7, 0, none⟩) 26 26) ∧ wx.cell? ⟨gb, 1, none⟩ = some (Value.slice (some ⟨h7, 0, none⟩) 26 26)))) [(0, false), (1, false), (2, false), (3, false), (4, false), (5, false), (6, false), (7, false), (8, true), (9, false), (10, false), (11, false), (12, false), (13, false), (14, false), (15, true), (16, false), (17, false)] (by kernel_rfl) (by as_aux_lemma => kernel_rfl) (by as_aux_lemma => kernel_rfl) (by as_aux_lemma => kernel_rfl) (fun _ _ _ _ _ h => h) s0 ?_
      intro O1 HO1
      refine wpSched_take (i := 0) (v := ?v1x1) (by as_aux_lemma => rw [HO1.out]; simp only [List.getElem?_toArray, List.getElem?_cons_zero]; rfl) (Or.inl ⟨(by rfl), ?y1x1⟩) ?r1x1
      case y1x1 => as_aux_lemma => intro wx hSx; (try dsimp only at hSx); go_simp; try with_reducible rfl
      try simp only [Act.put, List.setIfInBounds_toArray, List.set_cons_zero, List.set_cons_succ]
      refine wpSched_take (i := 1) (v := ?v1x2) (by as_aux_lemma => rw [HO1.out]; simp only [List.getElem?_toArray, List.getElem?_cons_succ, List.getElem?_cons_zero]; rfl) (Or.inl ⟨(by rfl), ?y1x2⟩) ?r1x2
      case y1x2 => as_aux_lemma => intro wx hSx; (try dsimp only at hSx); go_simp; try with_reducible rfl
      try simp only [Act.put, List.setIfInBounds_toArray, List.set_cons_zero, List.set_cons_succ]
      refine wpSched_take (i := 2) (v := ?v1x3) (by as_aux_lemma => rw [HO1.out]; simp only [List.getElem?_toArray, List.getElem?_cons_succ, List.getElem?_cons_zero]; rfl) (Or.inl ⟨(by rfl), ?y1x3⟩) ?r1x3
      case y1x3 => as_aux_lemma => intro wx hSx; (try dsimp only at hSx); go_simp; try with_reducible rfl
      try simp only [Act.put, List.setIfInBounds_toArray, List.set_cons_zero, List.set_cons_succ]
      refine wpSched_take (i := 3) (v := ?v1x4) (by as_aux_lemma => rw [HO1.out]; simp only [List.getElem?_toArray, List.getElem?_cons_succ, List.getElem?_cons_zero]; rfl) (Or.inl ⟨(by rfl), ?y1x4⟩) ?r1x4
      case y1x4 => as_aux_lemma => intro wx hSx; (try dsimp only at hSx); go_simp; try with_reducible rfl
      try simp only [Act.put, List.setIfInBounds_toArray, List.set_cons_zero, List.set_cons_succ]
      refine wpSched_take (i := 4) (v := ?v1x5) (by as_aux_lemma => rw [HO1.out]; simp only [List.getElem?_toArray, List.getElem?_cons_succ, List.getElem?_cons_zero]; rfl) (Or.inl ⟨(by rfl), ?y1x5⟩) ?r1x5
      case y1x5 => as_aux_lemma => intro wx hSx; (try dsimp only at hSx); go_simp; try with_reducible rfl
      try simp only [Act.put, List.setIfInBounds_toArray, List.set_cons_zero, List.set_cons_succ]
      refine wpSched_take (i := 5) (v := ?v1x6) (by as_aux_lemma => rw [HO1.out]; simp only [List.getElem?_toArray, List.getElem?_cons_succ, List.getElem?_cons_zero]; rfl) (Or.inl ⟨(by rfl), ?y1x6⟩) ?r1x6
      case y1x6 => as_aux_lemma => intro wx hSx; (try dsimp only at hSx); go_simp; try with_reducible rfl
      try simp only [Act.put, List.setIfInBounds_toArray, List.set_cons_zero, List.set_cons_succ]
      refine wpSched_take (i := 6) (v := ?v1x7) (by as_aux_lemma => rw [HO1.out]; simp only [List.getElem?_toArray, List.getElem?_cons_succ, List.getElem?_cons_zero]; rfl) (Or.inl ⟨(by rfl), ?y1x7⟩) ?r1x7
      case y1x7 => as_aux_lemma => intro wx hSx; (try dsimp only at hSx); go_simp; try with_reducible rfl
      try simp only [Act.put, List.setIfInBounds_toArray, List.set_cons_zero, List.set_cons_succ]
      refine wpSched_take (i := 7) (v := ?v1x8) (by as_aux_lemma => rw [HO1.out]; simp only [List.getElem?_toArray, List.getElem?_cons_succ, List.getElem?_cons_zero]; rfl) (Or.inl ⟨(by rfl), ?y1x8⟩) ?r1x8
      case y1x8 => as_aux_lemma => intro wx hSx; (try dsimp only at hSx); go_simp; try with_reducible rfl
      try simp only [Act.put, List.setIfInBounds_toArray, List.set_cons_zero, List.set_cons_succ]
      refine wpSched_call (i := 8) (by as_aux_lemma => rw [HO1.out]; simp only [List.getElem?_toArray, List.getElem?_cons_succ, List.getElem?_cons_zero]; rfl) (by rfl) (fun K' hK => ?_)
      go_simp
      refine (S1.out _ (by exact U.drew)).mono ?_
      rintro e wb ⟨rfl, hb⟩
      have Ub := Up.trans U.drew hb
      have s2 := HK.out _ Ub
      go_wp2_with fail
      refine hK.out _ _ s2 (fun _ => ?_)
      clear hK K'
      try simp only [Act.put, List.setIfInBounds_toArray, List.set_cons_zero, List.set_cons_succ]
      refine wpSched_take (i := 9) (v := ?v1x9) (by as_aux_lemma => rw [HO1.out]; simp only [List.getElem?_toArray, List.getElem?_cons_succ, List.getElem?_cons_zero]; rfl) (Or.inl ⟨(by rfl), ?y1x9⟩) ?r1x9
      case y1x9 => as_aux_lemma => intro wx hSx; (try dsimp only at hSx); go_simp; try with_reducible rfl
      try simp only [Act.put, List.setIfInBounds_toArray, List.set_cons_zero, List.set_cons_succ]
      refine wpSched_take (i := 10) (v := ?v1x10) (by as_aux_lemma => rw [HO1.out]; simp only [List.getElem?_toArray, List.getElem?_cons_succ, List.getElem?_cons_zero]; rfl) (Or.inl ⟨(by rfl), ?y1x10⟩) ?r1x10
      case y1x10 => as_aux_lemma => intro wx hSx; (try dsimp only at hSx); go_simp; try with_reducible rfl
      try simp only [Act.put, List.setIfInBounds_toArray, List.set_cons_zero, List.set_cons_succ]
      refine wpSched_take (i := 11) (v := ?v1x11) (by as_aux_lemma => rw [HO1.out]; simp only [List.getElem?_toArray, List.getElem?_cons_succ, List.getElem?_cons_zero]; rfl) (Or.inl ⟨(by as_aux_lemma => rw [HO1.out]; rfl), ?y1x11⟩) ?r1x11
      case y1x11 => as_aux_lemma => intro wx hSx; (try dsimp only at hSx); go_simp; try with_reducible rfl
      try simp only [Act.put, List.setIfInBounds_toArray, List.set_cons_zero, List.set_cons_succ]
      refine wpSched_take (i := 12) (v := ?v1x12) (by as_aux_lemma => rw [HO1.out]; simp only [List.getElem?_toArray, List.getElem?_cons_succ, List.getElem?_cons_zero]; rfl) (Or.inl ⟨(by as_aux_lemma => rw [HO1.out]; rfl), ?y1x12⟩) ?r1x12
      case y1x12 => as_aux_lemma => intro wx hSx; (try dsimp only at hSx); go_simp; try with_reducible rfl
      try simp only [Act.put, List.setIfInBounds_toArray, List.set_cons_zero, List.set_cons_succ]
      refine wpSched_take (i := 13) (v := ?v1x13) (by as_aux_lemma => rw [HO1.out]; simp only [List.getElem?_toArray, List.getElem?_cons_succ, List.getElem?_cons_zero]; rfl) (Or.inl ⟨(by as_aux_lemma => rw [HO1.out]; rfl), ?y1x13⟩) ?r1x13
      case y1x13 => as_aux_lemma => intro wx hSx; (try dsimp only at hSx); go_simp; try with_reducible rfl
      try simp only [Act.put, List.setIfInBounds_toArray, List.set_cons_zero, List.set_cons_succ]
      refine wpSched_take (i := 14) (v := ?v1x14) (by as_aux_lemma => rw [HO1.out]; simp only [List.getElem?_toArray, List.getElem?_cons_succ, List.getElem?_cons_zero]; rfl) (Or.inl ⟨(by as_aux_lemma => rw [HO1.out]; rfl), ?y1x14⟩) ?r1x14
      case y1x14 => as_aux_lemma => intro wx hSx; (try dsimp only at hSx); go_simp; try with_reducible rfl
      try simp only [Act.put, List.setIfInBounds_toArray, List.set_cons_zero, List.set_cons_succ]
      refine wpSched_call (i := 15) (by as_aux_lemma => rw [HO1.out]; simp only [List.getElem?_toArray, List.getElem?_cons_succ, List.getElem?_cons_zero]; rfl) (by as_aux_lemma => rw [HO1.out]; rfl) (fun K' hK => ?_)
      go_simp
      refine (S2.out _ (by exact Ub)).mono ?_
      rintro e wc ⟨rfl, hc⟩
      have Uc := Up.trans Ub hc
      have s3 := HK.out _ Uc
      go_wp2_with fail
      refine hK.out _ _ s3 (fun _ => ?_)
      clear hK K'
      try simp only [Act.put, List.setIfInBounds_toArray, List.set_cons_zero, List.set_cons_succ]
      refine wpSched_take (i := 16) (v := ?v1x15) (by as_aux_lemma => rw [HO1.out]; simp only [List.getElem?_toArray, List.getElem?_cons_succ, List.getElem?_cons_zero]; rfl) (Or.inl ⟨(by as_aux_lemma => rw [HO1.out]; rfl), ?y1x15⟩) ?r1x15
      case y1x15 => as_aux_lemma => intro wx hSx; (try dsimp only at hSx); go_simp; try with_reducible rfl
      try simp only [Act.put, List.setIfInBounds_toArray, List.set_cons_zero, List.set_cons_succ]
      refine wpSched_take (i := 17) (v := ?v1x16) (by as_aux_lemma => rw [HO1.out]; simp only [List.getElem?_toArray, List.getElem?_cons_succ, List.getElem?_cons_zero]; rfl) (Or.inl ⟨(by rfl), ?y1x16⟩) ?r1x16
      case y1x16 => as_aux_lemma => intro wx hSx; (try dsimp only at hSx); go_simp; try with_reducible rfl
      try simp only [Act.put, List.setIfInBounds_toArray, List.set_cons_zero, List.set_cons_succ]
      refine wpSched_end (NoPanic.normal ?_)
      clear HO1 O1
      go_wp2_with fail
      go_roundw
      case rel => exact ⟨0 + 1, by omega, by go_num, Uc⟩
      case measure => simp [intOf]
    · have HK : Hid (∀ W : World, Up w W → (W.cell? ⟨ga, 2, none⟩ = some (Value.slice (some ⟨g1, 0, none⟩) 26 26) ∧ W.cell? ⟨ga, 3, none⟩ = some (Value.slice (some ⟨h1, 0, none⟩) 26 26)) ∧ (W.cell? ⟨gb, 2, none⟩ = some (Value.slice (some ⟨g8, 0, none⟩) 26 26) ∧ W.cell? ⟨gb, 3, none⟩ = some (Value.slice (some ⟨h8, 0, none⟩) 26 26))) := Lib.hid fun W hU => by
        have a0 := (HA.out.up hU).cell 2
        have a1 := (HA.out.up hU).cell 3
        have b0 := (HB.out.up hU).cell 2
        have b1 := (HB.out.up hU).cell 3
        simp at a0 a1 b0 b1
        exact ⟨⟨a0, a1⟩, b0, b1⟩
      have S1 := Lib.hid (fun (W : World) (hU : Up w W) => sameM (by decide) (by decide) (N1.out W hU).1 (N1.out W hU).2 (N8.out W hU).1 (N8.out W hU).2)
      have S2 := Lib.hid (fun (W : World) (hU : Up w W) => validM (b := callsB) (f := zero26) (by decide) (by decide) (by decide) (N1.out W hU).1 (N1.out W hU).2)
      clear N0 N1 N2 N3 N4 N5 N6 N7 N8 N9 N10 N11 N12 N13 HA HB
      have s0 := HK.out _ U
      go_wp2_with fail
      refine wp_region_noPanic ?_
      refine wp_region_sched (S := (fun wx => (wx.cell? ⟨ga, 2, none⟩ = some (Value.slice (some ⟨g1, 0, none⟩) 26 26) ∧ wx.cell? ⟨ga, 3, none⟩ = some (Value.slice (some ⟨h1, 0, none⟩) 26 26)) ∧ (wx.cell? ⟨gb, 2, none⟩ = some (Value.slice (some ⟨g8, 0, none⟩) 26 26) ∧ wx.cell? ⟨gb, 3, none⟩ = some (Value.slice (some ⟨h8, 0, none⟩) 26 26)))) [(0, false), (1, false), (2, false), (3, false), (4, false), (5, false), (6, false), (7, false), (8, true), (9, false), (10, false), (11, false), (12, false), (13, false), (14, false), (15, true), (16, false), (17, false)] (by kernel_rfl) (by as_aux_lemma => kernel_rfl) (by as_aux_lemma => kernel_rfl) (by as_aux_lemma => kernel_rfl) (fun _ _ _ _ _ h => h) s0 ?_
      intro O2 HO2
      refine wpSched_take (i := 0) (v := ?v2x1) (by as_aux_lemma => rw [HO2.out]; simp only [List.getElem?_toArray, List.getElem?_cons_zero]; rfl) (Or.inl ⟨(by rfl), ?y2x1⟩) ?r2x1
      case y2x1 => as_aux_lemma => intro wx hSx; (try dsimp only at hSx); go_simp; try with_reducible rfl
      try simp only [Act.put, List.setIfInBounds_toArray, List.set_cons_zero, List.set_cons_succ]
      refine wpSched_take (i := 1) (v := ?v2x2) (by as_aux_lemma => rw [HO2.out]; simp only [List.getElem?_toArray, List.getElem?_cons_succ, List.getElem?_cons_zero]; rfl) (Or.inl ⟨(by rfl), ?y2x2⟩) ?r2x2
      case y2x2 => as_aux_lemma => intro wx hSx; (try dsimp only at hSx); go_simp; try with_reducible rfl
      try simp only [Act.put, List.setIfInBounds_toArray, List.set_cons_zero, List.set_cons_succ]
      refine wpSched_take (i := 2) (v := ?v2x3) (by as_aux_lemma => rw [HO2.out]; simp only [List.getElem?_toArray, List.getElem?_cons_succ, List.getElem?_cons_zero]; rfl) (Or.inl ⟨(by rfl), ?y2x3⟩) ?r2x3
      case y2x3 => as_aux_lemma => intro wx hSx; (try dsimp only at hSx); go_simp; try with_reducible rfl
      try simp only [Act.put, List.setIfInBounds_toArray, List.set_cons_zero, List.set_cons_succ]
      refine wpSched_take (i := 3) (v := ?v2x4) (by as_aux_lemma => rw [HO2.out]; simp only [List.getElem?_toArray, List.getElem?_cons_succ, List.getElem?_cons_zero]; rfl) (Or.inl ⟨(by rfl), ?y2x4⟩) ?r2x4
      case y2x4 => as_aux_lemma => intro wx hSx; (try dsimp only at hSx); go_simp; try with_reducible rfl
      try simp only [Act.put, List.setIfInBounds_toArray, List.set_cons_zero, List.set_cons_succ]
      refine wpSched_take (i := 4) (v := ?v2x5) (by as_aux_lemma => rw [HO2.out]; simp only [List.getElem?_toArray, List.getElem?_cons_succ, List.getElem?_cons_zero]; rfl) (Or.inl ⟨(by rfl), ?y2x5⟩) ?r2x5
      case y2x5 => as_aux_lemma => intro wx hSx; (try dsimp only at hSx); go_simp; try with_reducible rfl
      try simp only [Act.put, List.setIfInBounds_toArray, List.set_cons_zero, List.set_cons_succ]
      refine wpSched_take (i := 5) (v := ?v2x6) (by as_aux_lemma => rw [HO2.out]; simp only [List.getElem?_toArray, List.getElem?_cons_succ, List.getElem?_cons_zero]; rfl) (Or.inl ⟨(by rfl), ?y2x6⟩) ?r2x6
      case y2x6 => as_aux_lemma => intro wx hSx; (try dsimp only at hSx); go_simp; try with_reducible rfl
      try simp only [Act.put, List.setIfInBounds_toArray, List.set_cons_zero, List.set_cons_succ]
      refine wpSched_take (i := 6) (v := ?v2x7) (by as_aux_lemma => rw [HO2.out]; simp only [List.getElem?_toArray, List.getElem?_cons_succ, List.getElem?_cons_zero]; rfl) (Or.inl ⟨(by rfl), ?y2x7⟩) ?r2x7
      case y2x7 => as_aux_lemma => intro wx hSx; (try dsimp only at hSx); go_simp; try with_reducible rfl
      try simp only [Act.put, List.setIfInBounds_toArray, List.set_cons_zero, List.set_cons_succ]
      refine wpSched_take (i := 7) (v := ?v2x8) (by as_aux_lemma => rw [HO2.out]; simp only [List.getElem?_toArray, List.getElem?_cons_succ, List.getElem?_cons_zero]; rfl) (Or.inl ⟨(by rfl), ?y2x8⟩) ?r2x8
      case y2x8 => as_aux_lemma => intro wx hSx; (try dsimp only at hSx); go_simp; try with_reducible rfl
      try simp only [Act.put, List.setIfInBounds_toArray, List.set_cons_zero, List.set_cons_succ]
      refine wpSched_call (i := 8) (by as_aux_lemma => rw [HO2.out]; simp only [List.getElem?_toArray, List.getElem?_cons_succ, List.getElem?_cons_zero]; rfl) (by rfl) (fun K' hK => ?_)
      go_simp
      refine (S1.out _ (by exact U.drew)).mono ?_
      rintro e wb ⟨rfl, hb⟩
      have Ub := Up.trans U.drew hb
      have s2 := HK.out _ Ub
      go_wp2_with fail
      refine hK.out _ _ s2 (fun _ => ?_)
      clear hK K'
      try simp only [Act.put, List.setIfInBounds_toArray, List.set_cons_zero, List.set_cons_succ]
      refine wpSched_take (i := 9) (v := ?v2x9) (by as_aux_lemma => rw [HO2.out]; simp only [List.getElem?_toArray, List.getElem?_cons_succ, List.getElem?_cons_zero]; rfl) (Or.inl ⟨(by rfl), ?y2x9⟩) ?r2x9
      case y2x9 => as_aux_lemma => intro wx hSx; (try dsimp only at hSx); go_simp; try with_reducible rfl
      try simp only [Act.put, List.setIfInBounds_toArray, List.set_cons_zero, List.set_cons_succ]
      refine wpSched_take (i := 10) (v := ?v2x10) (by as_aux_lemma => rw [HO2.out]; simp only [List.getElem?_toArray, List.getElem?_cons_succ, List.getElem?_cons_zero]; rfl) (Or.inl ⟨(by rfl), ?y2x10⟩) ?r2x10
      case y2x10 => as_aux_lemma => intro wx hSx; (try dsimp only at hSx); go_simp; try with_reducible rfl
      try simp only [Act.put, List.setIfInBounds_toArray, List.set_cons_zero, List.set_cons_succ]
      refine wpSched_take (i := 11) (v := ?v2x11) (by as_aux_lemma => rw [HO2.out]; simp only [List.getElem?_toArray, List.getElem?_cons_succ, List.getElem?_cons_zero]; rfl) (Or.inl ⟨(by as_aux_lemma => rw [HO2.out]; rfl), ?y2x11⟩) ?r2x11
      case y2x11 => as_aux_lemma => intro wx hSx; (try dsimp only at hSx); go_simp; try with_reducible rfl
      try simp only [Act.put, List.setIfInBounds_toArray, List.set_cons_zero, List.set_cons_succ]
      refine wpSched_take (i := 12) (v := ?v2x12) (by as_aux_lemma => rw [HO2.out]; simp only [List.getElem?_toArray, List.getElem?_cons_succ, List.getElem?_cons_zero]; rfl) (Or.inl ⟨(by as_aux_lemma => rw [HO2.out]; rfl), ?y2x12⟩) ?r2x12
      case y2x12 => as_aux_lemma => intro wx hSx; (try dsimp only at hSx); go_simp; try with_reducible rfl
      try simp only [Act.put, List.setIfInBounds_toArray, List.set_cons_zero, List.set_cons_succ]
      refine wpSched_take (i := 13) (v := ?v2x13) (by as_aux_lemma => rw [HO2.out]; simp only [List.getElem?_toArray, List.getElem?_cons_succ, List.getElem?_cons_zero]; rfl) (Or.inl ⟨(by as_aux_lemma => rw [HO2.out]; rfl), ?y2x13⟩) ?r2x13
      case y2x13 => as_aux_lemma => intro wx hSx; (try dsimp only at hSx); go_simp; try with_reducible rfl
      try simp only [Act.put, List.setIfInBounds_toArray, List.set_cons_zero, List.set_cons_succ]
      refine wpSched_take (i := 14) (v := ?v2x14) (by as_aux_lemma => rw [HO2.out]; simp only [List.getElem?_toArray, List.getElem?_cons_succ, List.getElem?_cons_zero]; rfl) (Or.inl ⟨(by as_aux_lemma => rw [HO2.out]; rfl), ?y2x14⟩) ?r2x14
      case y2x14 => as_aux_lemma => intro wx hSx; (try dsimp only at hSx); go_simp; try with_reducible rfl
      try simp only [Act.put, List.setIfInBounds_toArray, List.set_cons_zero, List.set_cons_succ]
      refine wpSched_call (i := 15) (by as_aux_lemma => rw [HO2.out]; simp only [List.getElem?_toArray, List.getElem?_cons_succ, List.getElem?_cons_zero]; rfl) (by as_aux_lemma => rw [HO2.out]; rfl) (fun K' hK => ?_)
      go_simp
      refine (S2.out _ (by exact Ub)).mono ?_
      rintro e wc ⟨rfl, hc⟩
      have Uc := Up.trans Ub hc
      have s3 := HK.out _ Uc
      go_wp2_with fail
      refine hK.out _ _ s3 (fun _ => ?_)
      clear hK K'
      try simp only [Act.put, List.setIfInBounds_toArray, List.set_cons_zero, List.set_cons_succ]
      refine wpSched_take (i := 16) (v := ?v2x15) (by as_aux_lemma => rw [HO2.out]; simp only [List.getElem?_toArray, List.getElem?_cons_succ, List.getElem?_cons_zero]; rfl) (Or.inl ⟨(by as_aux_lemma => rw [HO2.out]; rfl), ?y2x15⟩) ?r2x15
      case y2x15 => as_aux_lemma => intro wx hSx; (try dsimp only at hSx); go_simp; try with_reducible rfl
      try simp only [Act.put, List.setIfInBounds_toArray, List.set_cons_zero, List.set_cons_succ]
      refine wpSched_take (i := 17) (v := ?v2x16) (by as_aux_lemma => rw [HO2.out]; simp only [List.getElem?_toArray, List.getElem?_cons_succ, List.getElem?_cons_zero]; rfl) (Or.inl ⟨(by rfl), ?y2x16⟩) ?r2x16
      case y2x16 => as_aux_lemma => intro wx hSx; (try dsimp only at hSx); go_simp; try with_reducible rfl
      try simp only [Act.put, List.setIfInBounds_toArray, List.set_cons_zero, List.set_cons_succ]
      refine wpSched_end (NoPanic.normal ?_)
      clear HO2 O2
      go_wp2_with fail
      go_roundw
      case rel => exact ⟨1 + 1, by omega, by go_num, Uc⟩
      case measure => simp [intOf]
    · have HK : Hid (∀ W : World, Up w W → (W.cell? ⟨ga, 4, none⟩ = some (Value.slice (some ⟨g2, 0, none⟩) 26 26) ∧ W.cell? ⟨ga, 5, none⟩ = some (Value.slice (some ⟨h2, 0, none⟩) 26 26)) ∧ (W.cell? ⟨gb, 4, none⟩ = some (Value.slice (some ⟨g9, 0, none⟩) 26 26) ∧ W.cell? ⟨gb, 5, none⟩ = some (Value.slice (some ⟨h9, 0, none⟩) 26 26))) := Lib.hid fun W hU => by
        have a0 := (HA.out.up hU).cell 4
        have a1 := (HA.out.up hU).cell 5
        have b0 := (HB.out.up hU).cell 4
        have b1 := (HB.out.up hU).cell 5
        simp at a0 a1 b0 b1
        exact ⟨⟨a0, a1⟩, b0, b1⟩
      have S1 := Lib.hid (fun (W : World) (hU : Up w W) => sameM (by decide) (by decide) (N2.out W hU).1 (N2.out W hU).2 (N9.out W hU).1 (N9.out W hU).2)
      have S2 := Lib.hid (fun (W : World) (hU : Up w W) => validM (b := stackB) (f := zero26) (by decide) (by decide) (by decide) (N2.out W hU).1 (N2.out W hU).2)
      clear N0 N1 N2 N3 N4 N5 N6 N7 N8 N9 N10 N11 N12 N13 HA HB
      have s0 := HK.out _ U
      go_wp2_with fail
      refine wp_region_noPanic ?_
      refine wp_region_sched (S := (fun wx => (wx.cell? ⟨ga, 4, none⟩ = some (Value.slice (some ⟨g2, 0, none⟩) 26 26) ∧ wx.cell? ⟨ga, 5, none⟩ = some (Value.slice (some ⟨h2, 0, none⟩) 26 26)) ∧ (wx.cell? ⟨gb, 4, none⟩ = some (Value.slice (some ⟨g9, 0, none⟩) 26 26) ∧ wx.cell? ⟨gb, 5, none⟩ = some (Value.slice (some ⟨h9, 0, none⟩) 26 26)))) [(0, false), (1, false), (2, false), (3, false), (4, false), (5, false), (6, false), (7, false), (8, true), (9, false), (10, false), (11, false), (12, false), (13, false), (14, false), (15, true), (16, false), (17, false)] (by kernel_rfl) (by as_aux_lemma => kernel_rfl) (by as_aux_lemma => kernel_rfl) (by as_aux_lemma => kernel_rfl) (fun _ _ _ _ _ h => h) s0 ?_
      intro O3 HO3
      refine wpSched_take (i := 0) (v := ?v3x1) (by as_aux_lemma => rw [HO3.out]; simp only [List.getElem?_toArray, List.getElem?_cons_zero]; rfl) (Or.inl ⟨(by rfl), ?y3x1⟩) ?r3x1
      case y3x1 => as_aux_lemma => intro wx hSx; (try dsimp only at hSx); go_simp; try with_reducible rfl
      try simp only [Act.put, List.setIfInBounds_toArray, List.set_cons_zero, List.set_cons_succ]
      refine wpSched_take (i := 1) (v := ?v3x2) (by as_aux_lemma => rw [HO3.out]; simp only [List.getElem?_toArray, List.getElem?_cons_succ, List.getElem?_cons_zero]; rfl) (Or.inl ⟨(by rfl), ?y3x2⟩) ?r3x2
      case y3x2 => as_aux_lemma => intro wx hSx; (try dsimp only at hSx); go_simp; try with_reducible rfl
      try simp only [Act.put, List.setIfInBounds_toArray, List.set_cons_zero, List.set_cons_succ]
      refine wpSched_take (i := 2) (v := ?v3x3) (by as_aux_lemma => rw [HO3.out]; simp only [List.getElem?_toArray, List.getElem?_cons_succ, List.getElem?_cons_zero]; rfl) (Or.inl ⟨(by rfl), ?y3x3⟩) ?r3x3
      case y3x3 => as_aux_lemma => intro wx hSx; (try dsimp only at hSx); go_simp; try with_reducible rfl
      try simp only [Act.put, List.setIfInBounds_toArray, List.set_cons_zero, List.set_cons_succ]
      refine wpSched_take (i := 3) (v := ?v3x4) (by as_aux_lemma => rw [HO3.out]; simp only [List.getElem?_toArray, List.getElem?_cons_succ, List.getElem?_cons_zero]; rfl) (Or.inl ⟨(by rfl), ?y3x4⟩) ?r3x4
      case y3x4 => as_aux_lemma => intro wx hSx; (try dsimp only at hSx); go_simp; try with_reducible rfl
      try simp only [Act.put, List.setIfInBounds_toArray, List.set_cons_zero, List.set_cons_succ]
      refine wpSched_take (i := 4) (v := ?v3x5) (by as_aux_lemma => rw [HO3.out]; simp only [List.getElem?_toArray, List.getElem?_cons_succ, List.getElem?_cons_zero]; rfl) (Or.inl ⟨(by rfl), ?y3x5⟩) ?r3x5
      case y3x5 => as_aux_lemma => intro wx hSx; (try dsimp only at hSx); go_simp; try with_reducible rfl
      try simp only [Act.put, List.setIfInBounds_toArray, List.set_cons_zero, List.set_cons_succ]
      refine wpSched_take (i := 5) (v := ?v3x6) (by as_aux_lemma => rw [HO3.out]; simp only [List.getElem?_toArray, List.getElem?_cons_succ, List.getElem?_cons_zero]; rfl) (Or.inl ⟨(by rfl), ?y3x6⟩) ?r3x6
      case y3x6 => as_aux_lemma => intro wx hSx; (try dsimp only at hSx); go_simp; try with_reducible rfl
      try simp only [Act.put, List.setIfInBounds_toArray, List.set_cons_zero, List.set_cons_succ]
      refine wpSched_take (i := 6) (v := ?v3x7) (by as_aux_lemma => rw [HO3.out]; simp only [List.getElem?_toArray, List.getElem?_cons_succ, List.getElem?_cons_zero]; rfl) (Or.inl ⟨(by rfl), ?y3x7⟩) ?r3x7
      case y3x7 => as_aux_lemma => intro wx hSx; (try dsimp only at hSx); go_simp; try with_reducible rfl
      try simp only [Act.put, List.setIfInBounds_toArray, List.set_cons_zero, List.set_cons_succ]
      refine wpSched_take (i := 7) (v := ?v3x8) (by as_aux_lemma => rw [HO3.out]; simp only [List.getElem?_toArray, List.getElem?_cons_succ, List.getElem?_cons_zero]; rfl) (Or.inl ⟨(by rfl), ?y3x8⟩) ?r3x8
      case y3x8 => as_aux_lemma => intro wx hSx; (try dsimp only at hSx); go_simp; try with_reducible rfl
      try simp only [Act.put, List.setIfInBounds_toArray, List.set_cons_zero, List.set_cons_succ]
      refine wpSched_call (i := 8) (by as_aux_lemma => rw [HO3.out]; simp only [List.getElem?_toArray, List.getElem?_cons_succ, List.getElem?_cons_zero]; rfl) (by rfl) (fun K' hK => ?_)
      go_simp
      refine (S1.out _ (by exact U.drew)).mono ?_
      rintro e wb ⟨rfl, hb⟩
      have Ub := Up.trans U.drew hb
      have s2 := HK.out _ Ub
      go_wp2_with fail
      refine hK.out _ _ s2 (fun _ => ?_)
      clear hK K'
      try simp only [Act.put, List.setIfInBounds_toArray, List.set_cons_zero, List.set_cons_succ]
      refine wpSched_take (i := 9) (v := ?v3x9) (by as_aux_lemma => rw [HO3.out]; simp only [List.getElem?_toArray, List.getElem?_cons_succ, List.getElem?_cons_zero]; rfl) (Or.inl ⟨(by rfl), ?y3x9⟩) ?r3x9
      case y3x9 => as_aux_lemma => intro wx hSx; (try dsimp only at hSx); go_simp; try with_reducible rfl
      try simp only [Act.put, List.setIfInBounds_toArray, List.set_cons_zero, List.set_cons_succ]
      refine wpSched_take (i := 10) (v := ?v3x10) (by as_aux_lemma => rw [HO3.out]; simp only [List.getElem?_toArray, List.getElem?_cons_succ, List.getElem?_cons_zero]; rfl) (Or.inl ⟨(by rfl), ?y3x10⟩) ?r3x10
      case y3x10 => as_aux_lemma => intro wx hSx; (try dsimp only at hSx); go_simp; try with_reducible rfl
      try simp only [Act.put, List.setIfInBounds_toArray, List.set_cons_zero, List.set_cons_succ]
      refine wpSched_take (i := 11) (v := ?v3x11) (by as_aux_lemma => rw [HO3.out]; simp only [List.getElem?_toArray, List.getElem?_cons_succ, List.getElem?_cons_zero]; rfl) (Or.inl ⟨(by as_aux_lemma => rw [HO3.out]; rfl), ?y3x11⟩) ?r3x11
      case y3x11 => as_aux_lemma => intro wx hSx; (try dsimp only at hSx); go_simp; try with_reducible rfl
      try simp only [Act.put, List.setIfInBounds_toArray, List.set_cons_zero, List.set_cons_succ]
      refine wpSched_take (i := 12) (v := ?v3x12) (by as_aux_lemma => rw [HO3.out]; simp only [List.getElem?_toArray, List.getElem?_cons_succ, List.getElem?_cons_zero]; rfl) (Or.inl ⟨(by as_aux_lemma => rw [HO3.out]; rfl), ?y3x12⟩) ?r3x12
      case y3x12 => as_aux_lemma => intro wx hSx; (try dsimp only at hSx); go_simp; try with_reducible rfl
      try simp only [Act.put, List.setIfInBounds_toArray, List.set_cons_zero, List.set_cons_succ]
      refine wpSched_take (i := 13) (v := ?v3x13) (by as_aux_lemma => rw [HO3.out]; simp only [List.getElem?_toArray, List.getElem?_cons_succ, List.getElem?_cons_zero]; rfl) (Or.inl ⟨(by as_aux_lemma => rw [HO3.out]; rfl), ?y3x13⟩) ?r3x13
      case y3x13 => as_aux_lemma => intro wx hSx; (try dsimp only at hSx); go_simp; try with_reducible rfl
      try simp only [Act.put, List.setIfInBounds_toArray, List.set_cons_zero, List.set_cons_succ]
      refine wpSched_take (i := 14) (v := ?v3x14) (by as_aux_lemma => rw [HO3.out]; simp only [List.getElem?_toArray, List.getElem?_cons_succ, List.getElem?_cons_zero]; rfl) (Or.inl ⟨(by as_aux_lemma => rw [HO3.out]; rfl), ?y3x14⟩) ?r3x14
      case y3x14 => as_aux_lemma => intro wx hSx; (try dsimp only at hSx); go_simp; try with_reducible rfl
      try simp only [Act.put, List.setIfInBounds_toArray, List.set_cons_zero, List.set_cons_succ]
      refine wpSched_call (i := 15) (by as_aux_lemma => rw [HO3.out]; simp only [List.getElem?_toArray, List.getElem?_cons_succ, List.getElem?_cons_zero]; rfl) (by as_aux_lemma => rw [HO3.out]; rfl) (fun K' hK => ?_)
      go_simp
      refine (S2.out _ (by exact Ub)).mono ?_
      rintro e wc ⟨rfl, hc⟩
      have Uc := Up.trans Ub hc
      have s3 := HK.out _ Uc
      go_wp2_with fail
      refine hK.out _ _ s3 (fun _ => ?_)
      clear hK K'
      try simp only [Act.put, List.setIfInBounds_toArray, List.set_cons_zero, List.set_cons_succ]
      refine wpSched_take (i := 16) (v := ?v3x15) (by as_aux_lemma => rw [HO3.out]; simp only [List.getElem?_toArray, List.getElem?_cons_succ, List.getElem?_cons_zero]; rfl) (Or.inl ⟨(by as_aux_lemma => rw [HO3.out]; rfl), ?y3x15⟩) ?r3x15
      case y3x15 => as_aux_lemma => intro wx hSx; (try dsimp only at hSx); go_simp; try with_reducible rfl
      try simp only [Act.put, List.setIfInBounds_toArray, List.set_cons_zero, List.set_cons_succ]
      refine wpSched_take (i := 17) (v := ?v3x16) (by as_aux_lemma => rw [HO3.out]; simp only [List.getElem?_toArray, List.getElem?_cons_succ, List.getElem?_cons_zero]; rfl) (Or.inl ⟨(by rfl), ?y3x16⟩) ?r3x16
      case y3x16 => as_aux_lemma => intro wx hSx; (try dsimp only at hSx); go_simp; try with_reducible rfl
      try simp only [Act.put, List.setIfInBounds_toArray, List.set_cons_zero, List.set_cons_succ]
      refine wpSched_end (NoPanic.normal ?_)
      clear HO3 O3
      go_wp2_with fail
      go_roundw
      case rel => exact ⟨2 + 1, by omega, by go_num, Uc⟩
      case measure => simp [intOf]
    · have HK : Hid (∀ W : World, Up w W → (W.cell? ⟨ga, 6, none⟩ = some (Value.slice (some ⟨g3, 0, none⟩) 26 26) ∧ W.cell? ⟨ga, 7, none⟩ = some (Value.slice (some ⟨h3, 0, none⟩) 26 26)) ∧ (W.cell? ⟨gb, 6, none⟩ = some (Value.slice (some ⟨g10, 0, none⟩) 26 26) ∧ W.cell? ⟨gb, 7, none⟩ = some (Value.slice (some ⟨h10, 0, none⟩) 26 26))) := Lib.hid fun W hU => by
        have a0 := (HA.out.up hU).cell 6
        have a1 := (HA.out.up hU).cell 7
        have b0 := (HB.out.up hU).cell 6
        have b1 := (HB.out.up hU).cell 7
        simp at a0 a1 b0 b1
        exact ⟨⟨a0, a1⟩, b0, b1⟩
      have S1 := Lib.hid (fun (W : World) (hU : Up w W) => sameM (by decide) (by decide) (N3.out W hU).1 (N3.out W hU).2 (N10.out W hU).1 (N10.out W hU).2)
      have S2 := Lib.hid (fun (W : World) (hU : Up w W) => validM (b := heapB) (f := heapF) (by decide) (by decide) (by decide) (N3.out W hU).1 (N3.out W hU).2)
      clear N0 N1 N2 N3 N4 N5 N6 N7 N8 N9 N10 N11 N12 N13 HA HB
      have s0 := HK.out _ U
      go_wp2_with fail
      refine wp_region_noPanic ?_
      refine wp_region_sched (S := (fun wx => (wx.cell? ⟨ga, 6, none⟩ = some (Value.slice (some ⟨g3, 0, none⟩) 26 26) ∧ wx.cell? ⟨ga, 7, none⟩ = some (Value.slice (some ⟨h3, 0, none⟩) 26 26)) ∧ (wx.cell? ⟨gb, 6, none⟩ = some (Value.slice (some ⟨g10, 0, none⟩) 26 26) ∧ wx.cell? ⟨gb, 7, none⟩ = some (Value.slice (some ⟨h10, 0, none⟩) 26 26)))) [(0, false), (1, false), (2, false), (3, false), (4, false), (5, false), (6, false), (7, false), (8, true), (9, false), (10, false), (11, false), (12, false), (13, false), (14, false), (15, true), (16, false), (17, false)] (by kernel_rfl) (by as_aux_lemma => kernel_rfl) (by as_aux_lemma => kernel_rfl) (by as_aux_lemma => kernel_rfl) (fun _ _ _ _ _ h => h) s0 ?_
      intro O4 HO4
      refine wpSched_take (i := 0) (v := ?v4x1) (by as_aux_lemma => rw [HO4.out]; simp only [List.getElem?_toArray, List.getElem?_cons_zero]; rfl) (Or.inl ⟨(by rfl), ?y4x1⟩) ?r4x1
      case y4x1 => as_aux_lemma => intro wx hSx; (try dsimp only at hSx); go_simp; try with_reducible rfl
      try simp only [Act.put, List.setIfInBounds_toArray, List.set_cons_zero, List.set_cons_succ]
      refine wpSched_take (i := 1) (v := ?v4x2) (by as_aux_lemma => rw [HO4.out]; simp only [List.getElem?_toArray, List.getElem?_cons_succ, List.getElem?_cons_zero]; rfl) (Or.inl ⟨(by rfl), ?y4x2⟩) ?r4x2
      case y4x2 => as_aux_lemma => intro wx hSx; (try dsimp only at hSx); go_simp; try with_reducible rfl
      try simp only [Act.put, List.setIfInBounds_toArray, List.set_cons_zero, List.set_cons_succ]
      refine wpSched_take (i := 2) (v := ?v4x3) (by as_aux_lemma => rw [HO4.out]; simp only [List.getElem?_toArray, List.getElem?_cons_succ, List.getElem?_cons_zero]; rfl) (Or.inl ⟨(by rfl), ?y4x3⟩) ?r4x3
      case y4x3 => as_aux_lemma => intro wx hSx; (try dsimp only at hSx); go_simp; try with_reducible rfl
      try simp only [Act.put, List.setIfInBounds_toArray, List.set_cons_zero, List.set_cons_succ]
      refine wpSched_take (i := 3) (v := ?v4x4) (by as_aux_lemma => rw [HO4.out]; simp only [List.getElem?_toArray, List.getElem?_cons_succ, List.getElem?_cons_zero]; rfl) (Or.inl ⟨(by rfl), ?y4x4⟩) ?r4x4
      case y4x4 => as_aux_lemma => intro wx hSx; (try dsimp only at hSx); go_simp; try with_reducible rfl
      try simp only [Act.put, List.setIfInBounds_toArray, List.set_cons_zero, List.set_cons_succ]
      refine wpSched_take (i := 4) (v := ?v4x5) (by as_aux_lemma => rw [HO4.out]; simp only [List.getElem?_toArray, List.getElem?_cons_succ, List.getElem?_cons_zero]; rfl) (Or.inl ⟨(by rfl), ?y4x5⟩) ?r4x5
      case y4x5 => as_aux_lemma => intro wx hSx; (try dsimp only at hSx); go_simp; try with_reducible rfl
      try simp only [Act.put, List.setIfInBounds_toArray, List.set_cons_zero, List.set_cons_succ]
      refine wpSched_take (i := 5) (v := ?v4x6) (by as_aux_lemma => rw [HO4.out]; simp only [List.getElem?_toArray, List.getElem?_cons_succ, List.getElem?_cons_zero]; rfl) (Or.inl ⟨(by rfl), ?y4x6⟩) ?r4x6
      case y4x6 => as_aux_lemma => intro wx hSx; (try dsimp only at hSx); go_simp; try with_reducible rfl
      try simp only [Act.put, List.setIfInBounds_toArray, List.set_cons_zero, List.set_cons_succ]
      refine wpSched_take (i := 6) (v := ?v4x7) (by as_aux_lemma => rw [HO4.out]; simp only [List.getElem?_toArray, List.getElem?_cons_succ, List.getElem?_cons_zero]; rfl) (Or.inl ⟨(by rfl), ?y4x7⟩) ?r4x7
      case y4x7 => as_aux_lemma => intro wx hSx; (try dsimp only at hSx); go_simp; try with_reducible rfl
      try simp only [Act.put, List.setIfInBounds_toArray, List.set_cons_zero, List.set_cons_succ]
      refine wpSched_take (i := 7) (v := ?v4x8) (by as_aux_lemma => rw [HO4.out]; simp only [List.getElem?_toArray, List.getElem?_cons_succ, List.getElem?_cons_zero]; rfl) (Or.inl ⟨(by rfl), ?y4x8⟩) ?r4x8
      case y4x8 => as_aux_lemma => intro wx hSx; (try dsimp only at hSx); go_simp; try with_reducible rfl
      try simp only [Act.put, List.setIfInBounds_toArray, List.set_cons_zero, List.set_cons_succ]
      refine wpSched_call (i := 8) (by as_aux_lemma => rw [HO4.out]; simp only [List.getElem?_toArray, List.getElem?_cons_succ, List.getElem?_cons_zero]; rfl) (by rfl) (fun K' hK => ?_)
      go_simp
      refine (S1.out _ (by exact U.drew)).mono ?_
      rintro e wb ⟨rfl, hb⟩
      have Ub := Up.trans U.drew hb
      have s2 := HK.out _ Ub
      go_wp2_with fail
      refine hK.out _ _ s2 (fun _ => ?_)
      clear hK K'
      try simp only [Act.put, List.setIfInBounds_toArray, List.set_cons_zero, List.set_cons_succ]
      refine wpSched_take (i := 9) (v := ?v4x9) (by as_aux_lemma => rw [HO4.out]; simp only [List.getElem?_toArray, List.getElem?_cons_succ, List.getElem?_cons_zero]; rfl) (Or.inl ⟨(by rfl), ?y4x9⟩) ?r4x9
      case y4x9 => as_aux_lemma => intro wx hSx; (try dsimp only at hSx); go_simp; try with_reducible rfl
      try simp only [Act.put, List.setIfInBounds_toArray, List.set_cons_zero, List.set_cons_succ]
      refine wpSched_take (i := 10) (v := ?v4x10) (by as_aux_lemma => rw [HO4.out]; simp only [List.getElem?_toArray, List.getElem?_cons_succ, List.getElem?_cons_zero]; rfl) (Or.inl ⟨(by rfl), ?y4x10⟩) ?r4x10
      case y4x10 => as_aux_lemma => intro wx hSx; (try dsimp only at hSx); go_simp; try with_reducible rfl
      try simp only [Act.put, List.setIfInBounds_toArray, List.set_cons_zero, List.set_cons_succ]
      refine wpSched_take (i := 11) (v := ?v4x11) (by as_aux_lemma => rw [HO4.out]; simp only [List.getElem?_toArray, List.getElem?_cons_succ, List.getElem?_cons_zero]; rfl) (Or.inl ⟨(by as_aux_lemma => rw [HO4.out]; rfl), ?y4x11⟩) ?r4x11
      case y4x11 => as_aux_lemma => intro wx hSx; (try dsimp only at hSx); go_simp; try with_reducible rfl
      try simp only [Act.put, List.setIfInBounds_toArray, List.set_cons_zero, List.set_cons_succ]
      refine wpSched_take (i := 12) (v := ?v4x12) (by as_aux_lemma => rw [HO4.out]; simp only [List.getElem?_toArray, List.getElem?_cons_succ, List.getElem?_cons_zero]; rfl) (Or.inl ⟨(by as_aux_lemma => rw [HO4.out]; rfl), ?y4x12⟩) ?r4x12
      case y4x12 => as_aux_lemma => intro wx hSx; (try dsimp only at hSx); go_simp; try with_reducible rfl
      try simp only [Act.put, List.setIfInBounds_toArray, List.set_cons_zero, List.set_cons_succ]
      refine wpSched_take (i := 13) (v := ?v4x13) (by as_aux_lemma => rw [HO4.out]; simp only [List.getElem?_toArray, List.getElem?_cons_succ, List.getElem?_cons_zero]; rfl) (Or.inl ⟨(by as_aux_lemma => rw [HO4.out]; rfl), ?y4x13⟩) ?r4x13
      case y4x13 => as_aux_lemma => intro wx hSx; (try dsimp only at hSx); go_simp; try with_reducible rfl
      try simp only [Act.put, List.setIfInBounds_toArray, List.set_cons_zero, List.set_cons_succ]
      refine wpSched_take (i := 14) (v := ?v4x14) (by as_aux_lemma => rw [HO4.out]; simp only [List.getElem?_toArray, List.getElem?_cons_succ, List.getElem?_cons_zero]; rfl) (Or.inl ⟨(by as_aux_lemma => rw [HO4.out]; rfl), ?y4x14⟩) ?r4x14
      case y4x14 => as_aux_lemma => intro wx hSx; (try dsimp only at hSx); go_simp; try with_reducible rfl
      try simp only [Act.put, List.setIfInBounds_toArray, List.set_cons_zero, List.set_cons_succ]
      refine wpSched_call (i := 15) (by as_aux_lemma => rw [HO4.out]; simp only [List.getElem?_toArray, List.getElem?_cons_succ, List.getElem?_cons_zero]; rfl) (by as_aux_lemma => rw [HO4.out]; rfl) (fun K' hK => ?_)
      go_simp
      refine (S2.out _ (by exact Ub)).mono ?_
      rintro e wc ⟨rfl, hc⟩
      have Uc := Up.trans Ub hc
      have s3 := HK.out _ Uc
      go_wp2_with fail
      refine hK.out _ _ s3 (fun _ => ?_)
      clear hK K'
      try simp only [Act.put, List.setIfInBounds_toArray, List.set_cons_zero, List.set_cons_succ]
      refine wpSched_take (i := 16) (v := ?v4x15) (by as_aux_lemma => rw [HO4.out]; simp only [List.getElem?_toArray, List.getElem?_cons_succ, List.getElem?_cons_zero]; rfl) (Or.inl ⟨(by as_aux_lemma => rw [HO4.out]; rfl), ?y4x15⟩) ?r4x15
      case y4x15 => as_aux_lemma => intro wx hSx; (try dsimp only at hSx); go_simp; try with_reducible rfl
      try simp only [Act.put, List.setIfInBounds_toArray, List.set_cons_zero, List.set_cons_succ]
      refine wpSched_take (i := 17) (v := ?v4x16) (by as_aux_lemma => rw [HO4.out]; simp only [List.getElem?_toArray, List.getElem?_cons_succ, List.getElem?_cons_zero]; rfl) (Or.inl ⟨(by rfl), ?y4x16⟩) ?r4x16
      case y4x16 => as_aux_lemma => intro wx hSx; (try dsimp only at hSx); go_simp; try with_reducible rfl
      try simp only [Act.put, List.setIfInBounds_toArray, List.set_cons_zero, List.set_cons_succ]
      refine wpSched_end (NoPanic.normal ?_)
      clear HO4 O4
      go_wp2_with fail
      go_roundw
      case rel => exact ⟨3 + 1, by omega, by go_num, Uc⟩
      case measure => simp [intOf]
    · have HK : Hid (∀ W : World, Up w W → (W.cell? ⟨ga, 8, none⟩ = some (Value.slice (some ⟨g4, 0, none⟩) 26 26) ∧ W.cell? ⟨ga, 9, none⟩ = some (Value.slice (some ⟨h4, 0, none⟩) 26 26)) ∧ (W.cell? ⟨gb, 8, none⟩ = some (Value.slice (some ⟨g11, 0, none⟩) 26 26) ∧ W.cell? ⟨gb, 9, none⟩ = some (Value.slice (some ⟨h11, 0, none⟩) 26 26))) := Lib.hid fun W hU => by
        have a0 := (HA.out.up hU).cell 8
        have a1 := (HA.out.up hU).cell 9
        have b0 := (HB.out.up hU).cell 8
        have b1 := (HB.out.up hU).cell 9
        simp at a0 a1 b0 b1
        exact ⟨⟨a0, a1⟩, b0, b1⟩
      have S1 := Lib.hid (fun (W : World) (hU : Up w W) => sameM (by decide) (by decide) (N4.out W hU).1 (N4.out W hU).2 (N11.out W hU).1 (N11.out W hU).2)
      have S2 := Lib.hid (fun (W : World) (hU : Up w W) => validM (b := garbageB) (f := garbageF) (by decide) (by decide) (by decide) (N4.out W hU).1 (N4.out W hU).2)
      clear N0 N1 N2 N3 N4 N5 N6 N7 N8 N9 N10 N11 N12 N13 HA HB
      have s0 := HK.out _ U
      go_wp2_with fail
      refine wp_region_noPanic ?_
      refine wp_region_sched (S := (fun wx => (wx.cell? ⟨ga, 8, none⟩ = some (Value.slice (some ⟨g4, 0, none⟩) 26 26) ∧ wx.cell? ⟨ga, 9, none⟩ = some (Value.slice (some ⟨h4, 0, none⟩) 26 26)) ∧ (wx.cell? ⟨gb, 8, none⟩ = some (Value.slice (some ⟨g11, 0, none⟩) 26 26) ∧ wx.cell? ⟨gb, 9, none⟩ = some (Value.slice (some ⟨h11, 0, none⟩) 26 26)))) [(0, false), (1, false), (2, false), (3, false), (4, false), (5, false), (6, false), (7, false), (8, true), (9, false), (10, false), (11, false), (12, false), (13, false), (14, false), (15, true), (16, false), (17, false)] (by kernel_rfl) (by as_aux_lemma => kernel_rfl) (by as_aux_lemma => kernel_rfl) (by as_aux_lemma => kernel_rfl) (fun _ _ _ _ _ h => h) s0 ?_
      intro O5 HO5
      refine wpSched_take (i := 0) (v := ?v5x1) (by as_aux_lemma => rw [HO5.out]; simp only [List.getElem?_toArray, List.getElem?_cons_zero]; rfl) (Or.inl ⟨(by rfl), ?y5x1⟩) ?r5x1
      case y5x1 => as_aux_lemma => intro wx hSx; (try dsimp only at hSx); go_simp; try with_reducible rfl
      try simp only [Act.put, List.setIfInBounds_toArray, List.set_cons_zero, List.set_cons_succ]
      refine wpSched_take (i := 1) (v := ?v5x2) (by as_aux_lemma => rw [HO5.out]; simp only [List.getElem?_toArray, List.getElem?_cons_succ, List.getElem?_cons_zero]; rfl) (Or.inl ⟨(by rfl), ?y5x2⟩) ?r5x2
      case y5x2 => as_aux_lemma => intro wx hSx; (try dsimp only at hSx); go_simp; try with_reducible rfl
      try simp only [Act.put, List.setIfInBounds_toArray, List.set_cons_zero, List.set_cons_succ]
      refine wpSched_take (i := 2) (v := ?v5x3) (by as_aux_lemma => rw [HO5.out]; simp only [List.getElem?_toArray, List.getElem?_cons_succ, List.getElem?_cons_zero]; rfl) (Or.inl ⟨(by rfl), ?y5x3⟩) ?r5x3
      case y5x3 => as_aux_lemma => intro wx hSx; (try dsimp only at hSx); go_simp; try with_reducible rfl
      try simp only [Act.put, List.setIfInBounds_toArray, List.set_cons_zero, List.set_cons_succ]
      refine wpSched_take (i := 3) (v := ?v5x4) (by as_aux_lemma => rw [HO5.out]; simp only [List.getElem?_toArray, List.getElem?_cons_succ, List.getElem?_cons_zero]; rfl) (Or.inl ⟨(by rfl), ?y5x4⟩) ?r5x4
      case y5x4 => as_aux_lemma => intro wx hSx; (try dsimp only at hSx); go_simp; try with_reducible rfl
      try simp only [Act.put, List.setIfInBounds_toArray, List.set_cons_zero, List.set_cons_succ]
      refine wpSched_take (i := 4) (v := ?v5x5) (by as_aux_lemma => rw [HO5.out]; simp only [List.getElem?_toArray, List.getElem?_cons_succ, List.getElem?_cons_zero]; rfl) (Or.inl ⟨(by rfl), ?y5x5⟩) ?r5x5
      case y5x5 => as_aux_lemma => intro wx hSx; (try dsimp only at hSx); go_simp; try with_reducible rfl
      try simp only [Act.put, List.setIfInBounds_toArray, List.set_cons_zero, List.set_cons_succ]
      refine wpSched_take (i := 5) (v := ?v5x6) (by as_aux_lemma => rw [HO5.out]; simp only [List.getElem?_toArray, List.getElem?_cons_succ, List.getElem?_cons_zero]; rfl) (Or.inl ⟨(by rfl), ?y5x6⟩) ?r5x6
      case y5x6 => as_aux_lemma => intro wx hSx; (try dsimp only at hSx); go_simp; try with_reducible rfl
      try simp only [Act.put, List.setIfInBounds_toArray, List.set_cons_zero, List.set_cons_succ]
      refine wpSched_take (i := 6) (v := ?v5x7) (by as_aux_lemma => rw [HO5.out]; simp only [List.getElem?_toArray, List.getElem?_cons_succ, List.getElem?_cons_zero]; rfl) (Or.inl ⟨(by rfl), ?y5x7⟩) ?r5x7
      case y5x7 => as_aux_lemma => intro wx hSx; (try dsimp only at hSx); go_simp; try with_reducible rfl
      try simp only [Act.put, List.setIfInBounds_toArray, List.set_cons_zero, List.set_cons_succ]
      refine wpSched_take (i := 7) (v := ?v5x8) (by as_aux_lemma => rw [HO5.out]; simp only [List.getElem?_toArray, List.getElem?_cons_succ, List.getElem?_cons_zero]; rfl) (Or.inl ⟨(by rfl), ?y5x8⟩) ?r5x8
      case y5x8 => as_aux_lemma => intro wx hSx; (try dsimp only at hSx); go_simp; try with_reducible rfl
      try simp only [Act.put, List.setIfInBounds_toArray, List.set_cons_zero, List.set_cons_succ]
      refine wpSched_call (i := 8) (by as_aux_lemma => rw [HO5.out]; simp only [List.getElem?_toArray, List.getElem?_cons_succ, List.getElem?_cons_zero]; rfl) (by rfl) (fun K' hK => ?_)
      go_simp
      refine (S1.out _ (by exact U.drew)).mono ?_
      rintro e wb ⟨rfl, hb⟩
      have Ub := Up.trans U.drew hb
      have s2 := HK.out _ Ub
      go_wp2_with fail
      refine hK.out _ _ s2 (fun _ => ?_)
      clear hK K'
      try simp only [Act.put, List.setIfInBounds_toArray, List.set_cons_zero, List.set_cons_succ]
      refine wpSched_take (i := 9) (v := ?v5x9) (by as_aux_lemma => rw [HO5.out]; simp only [List.getElem?_toArray, List.getElem?_cons_succ, List.getElem?_cons_zero]; rfl) (Or.inl ⟨(by rfl), ?y5x9⟩) ?r5x9
      case y5x9 => as_aux_lemma => intro wx hSx; (try dsimp only at hSx); go_simp; try with_reducible rfl
      try simp only [Act.put, List.setIfInBounds_toArray, List.set_cons_zero, List.set_cons_succ]
      refine wpSched_take (i := 10) (v := ?v5x10) (by as_aux_lemma => rw [HO5.out]; simp only [List.getElem?_toArray, List.getElem?_cons_succ, List.getElem?_cons_zero]; rfl) (Or.inl ⟨(by rfl), ?y5x10⟩) ?r5x10
      case y5x10 => as_aux_lemma => intro wx hSx; (try dsimp only at hSx); go_simp; try with_reducible rfl
      try simp only [Act.put, List.setIfInBounds_toArray, List.set_cons_zero, List.set_cons_succ]
      refine wpSched_take (i := 11) (v := ?v5x11) (by as_aux_lemma => rw [HO5.out]; simp only [List.getElem?_toArray, List.getElem?_cons_succ, List.getElem?_cons_zero]; rfl) (Or.inl ⟨(by as_aux_lemma => rw [HO5.out]; rfl), ?y5x11⟩) ?r5x11
      case y5x11 => as_aux_lemma => intro wx hSx; (try dsimp only at hSx); go_simp; try with_reducible rfl
      try simp only [Act.put, List.setIfInBounds_toArray, List.set_cons_zero, List.set_cons_succ]
      refine wpSched_take (i := 12) (v := ?v5x12) (by as_aux_lemma => rw [HO5.out]; simp only [List.getElem?_toArray, List.getElem?_cons_succ, List.getElem?_cons_zero]; rfl) (Or.inl ⟨(by as_aux_lemma => rw [HO5.out]; rfl), ?y5x12⟩) ?r5x12
      case y5x12 => as_aux_lemma => intro wx hSx; (try dsimp only at hSx); go_simp; try with_reducible rfl
      try simp only [Act.put, List.setIfInBounds_toArray, List.set_cons_zero, List.set_cons_succ]
      refine wpSched_take (i := 13) (v := ?v5x13) (by as_aux_lemma => rw [HO5.out]; simp only [List.getElem?_toArray, List.getElem?_cons_succ, List.getElem?_cons_zero]; rfl) (Or.inl ⟨(by as_aux_lemma => rw [HO5.out]; rfl), ?y5x13⟩) ?r5x13
      case y5x13 => as_aux_lemma => intro wx hSx; (try dsimp only at hSx); go_simp; try with_reducible rfl
      try simp only [Act.put, List.setIfInBounds_toArray, List.set_cons_zero, List.set_cons_succ]
      refine wpSched_take (i := 14) (v := ?v5x14) (by as_aux_lemma => rw [HO5.out]; simp only [List.getElem?_toArray, List.getElem?_cons_succ, List.getElem?_cons_zero]; rfl) (Or.inl ⟨(by as_aux_lemma => rw [HO5.out]; rfl), ?y5x14⟩) ?r5x14
      case y5x14 => as_aux_lemma => intro wx hSx; (try dsimp only at hSx); go_simp; try with_reducible rfl
      try simp only [Act.put, List.setIfInBounds_toArray, List.set_cons_zero, List.set_cons_succ]
      refine wpSched_call (i := 15) (by as_aux_lemma => rw [HO5.out]; simp only [List.getElem?_toArray, List.getElem?_cons_succ, List.getElem?_cons_zero]; rfl) (by as_aux_lemma => rw [HO5.out]; rfl) (fun K' hK => ?_)
      go_simp
      refine (S2.out _ (by exact Ub)).mono ?_
      rintro e wc ⟨rfl, hc⟩
      have Uc := Up.trans Ub hc
      have s3 := HK.out _ Uc
      go_wp2_with fail
      refine hK.out _ _ s3 (fun _ => ?_)
      clear hK K'
      try simp only [Act.put, List.setIfInBounds_toArray, List.set_cons_zero, List.set_cons_succ]
      refine wpSched_take (i := 16) (v := ?v5x15) (by as_aux_lemma => rw [HO5.out]; simp only [List.getElem?_toArray, List.getElem?_cons_succ, List.getElem?_cons_zero]; rfl) (Or.inl ⟨(by as_aux_lemma => rw [HO5.out]; rfl), ?y5x15⟩) ?r5x15
      case y5x15 => as_aux_lemma => intro wx hSx; (try dsimp only at hSx); go_simp; try with_reducible rfl
      try simp only [Act.put, List.setIfInBounds_toArray, List.set_cons_zero, List.set_cons_succ]
      refine wpSched_take (i := 17) (v := ?v5x16) (by as_aux_lemma => rw [HO5.out]; simp only [List.getElem?_toArray, List.getElem?_cons_succ, List.getElem?_cons_zero]; rfl) (Or.inl ⟨(by rfl), ?y5x16⟩) ?r5x16
      case y5x16 => as_aux_lemma => intro wx hSx; (try dsimp only at hSx); go_simp; try with_reducible rfl
      try simp only [Act.put, List.setIfInBounds_toArray, List.set_cons_zero, List.set_cons_succ]
      refine wpSched_end (NoPanic.normal ?_)
      clear HO5 O5
      go_wp2_with fail
      go_roundw
      case rel => exact ⟨4 + 1, by omega, by go_num, Uc⟩
      case measure => simp [intOf]
    · have HK : Hid (∀ W : World, Up w W → (W.cell? ⟨ga, 10, none⟩ = some (Value.slice (some ⟨g5, 0, none⟩) 26 26) ∧ W.cell? ⟨ga, 11, none⟩ = some (Value.slice (some ⟨h5, 0, none⟩) 26 26)) ∧ (W.cell? ⟨gb, 10, none⟩ = some (Value.slice (some ⟨g12, 0, none⟩) 26 26) ∧ W.cell? ⟨gb, 11, none⟩ = some (Value.slice (some ⟨h12, 0, none⟩) 26 26))) := Lib.hid fun W hU => by
        have a0 := (HA.out.up hU).cell 10
        have a1 := (HA.out.up hU).cell 11
        have b0 := (HB.out.up hU).cell 10
        have b1 := (HB.out.up hU).cell 11
        simp at a0 a1 b0 b1
        exact ⟨⟨a0, a1⟩, b0, b1⟩
      have S1 := Lib.hid (fun (W : World) (hU : Up w W) => sameM (by decide) (by decide) (N5.out W hU).1 (N5.out W hU).2 (N12.out W hU).1 (N12.out W hU).2)
      have S2 := Lib.hid (fun (W : World) (hU : Up w W) => validM (b := ticksB) (f := zero26) (by decide) (by decide) (by decide) (N5.out W hU).1 (N5.out W hU).2)
      clear N0 N1 N2 N3 N4 N5 N6 N7 N8 N9 N10 N11 N12 N13 HA HB
      have s0 := HK.out _ U
      go_wp2_with fail
      refine wp_region_noPanic ?_
      refine wp_region_sched (S := (fun wx => (wx.cell? ⟨ga, 10, none⟩ = some (Value.slice (some ⟨g5, 0, none⟩) 26 26) ∧ wx.cell? ⟨ga, 11, none⟩ = some (Value.slice (some ⟨h5, 0, none⟩) 26 26)) ∧ (wx.cell? ⟨gb, 10, none⟩ = some (Value.slice (some ⟨g12, 0, none⟩) 26 26) ∧ wx.cell? ⟨gb, 11, none⟩ = some (Value.slice (some ⟨h12, 0, none⟩) 26 26)))) [(0, false), (1, false), (2, false), (3, false), (4, false), (5, false), (6, false), (7, false), (8, true), (9, false), (10, false), (11, false), (12, false), (13, false), (14, false), (15, true), (16, false), (17, false)] (by kernel_rfl) (by as_aux_lemma => kernel_rfl) (by as_aux_lemma => kernel_rfl) (by as_aux_lemma => kernel_rfl) (fun _ _ _ _ _ h => h) s0 ?_
      intro O6 HO6
      refine wpSched_take (i := 0) (v := ?v6x1) (by as_aux_lemma => rw [HO6.out]; simp only [List.getElem?_toArray, List.getElem?_cons_zero]; rfl) (Or.inl ⟨(by rfl), ?y6x1⟩) ?r6x1
      case y6x1 => as_aux_lemma => intro wx hSx; (try dsimp only at hSx); go_simp; try with_reducible rfl
      try simp only [Act.put, List.setIfInBounds_toArray, List.set_cons_zero, List.set_cons_succ]
      refine wpSched_take (i := 1) (v := ?v6x2) (by as_aux_lemma => rw [HO6.out]; simp only [List.getElem?_toArray, List.getElem?_cons_succ, List.getElem?_cons_zero]; rfl) (Or.inl ⟨(by rfl), ?y6x2⟩) ?r6x2
      case y6x2 => as_aux_lemma => intro wx hSx; (try dsimp only at hSx); go_simp; try with_reducible rfl
      try simp only [Act.put, List.setIfInBounds_toArray, List.set_cons_zero, List.set_cons_succ]
      refine wpSched_take (i := 2) (v := ?v6x3) (by as_aux_lemma => rw [HO6.out]; simp only [List.getElem?_toArray, List.getElem?_cons_succ, List.getElem?_cons_zero]; rfl) (Or.inl ⟨(by rfl), ?y6x3⟩) ?r6x3
      case y6x3 => as_aux_lemma => intro wx hSx; (try dsimp only at hSx); go_simp; try with_reducible rfl
      try simp only [Act.put, List.setIfInBounds_toArray, List.set_cons_zero, List.set_cons_succ]
      refine wpSched_take (i := 3) (v := ?v6x4) (by as_aux_lemma => rw [HO6.out]; simp only [List.getElem?_toArray, List.getElem?_cons_succ, List.getElem?_cons_zero]; rfl) (Or.inl ⟨(by rfl), ?y6x4⟩) ?r6x4
      case y6x4 => as_aux_lemma => intro wx hSx; (try dsimp only at hSx); go_simp; try with_reducible rfl
      try simp only [Act.put, List.setIfInBounds_toArray, List.set_cons_zero, List.set_cons_succ]
      refine wpSched_take (i := 4) (v := ?v6x5) (by as_aux_lemma => rw [HO6.out]; simp only [List.getElem?_toArray, List.getElem?_cons_succ, List.getElem?_cons_zero]; rfl) (Or.inl ⟨(by rfl), ?y6x5⟩) ?r6x5
      case y6x5 => as_aux_lemma => intro wx hSx; (try dsimp only at hSx); go_simp; try with_reducible rfl
      try simp only [Act.put, List.setIfInBounds_toArray, List.set_cons_zero, List.set_cons_succ]
      refine wpSched_take (i := 5) (v := ?v6x6) (by as_aux_lemma => rw [HO6.out]; simp only [List.getElem?_toArray, List.getElem?_cons_succ, List.getElem?_cons_zero]; rfl) (Or.inl ⟨(by rfl), ?y6x6⟩) ?r6x6
      case y6x6 => as_aux_lemma => intro wx hSx; (try dsimp only at hSx); go_simp; try with_reducible rfl
      try simp only [Act.put, List.setIfInBounds_toArray, List.set_cons_zero, List.set_cons_succ]
      refine wpSched_take (i := 6) (v := ?v6x7) (by as_aux_lemma => rw [HO6.out]; simp only [List.getElem?_toArray, List.getElem?_cons_succ, List.getElem?_cons_zero]; rfl) (Or.inl ⟨(by rfl), ?y6x7⟩) ?r6x7
      case y6x7 => as_aux_lemma => intro wx hSx; (try dsimp only at hSx); go_simp; try with_reducible rfl
      try simp only [Act.put, List.setIfInBounds_toArray, List.set_cons_zero, List.set_cons_succ]
      refine wpSched_take (i := 7) (v := ?v6x8) (by as_aux_lemma => rw [HO6.out]; simp only [List.getElem?_toArray, List.getElem?_cons_succ, List.getElem?_cons_zero]; rfl) (Or.inl ⟨(by rfl), ?y6x8⟩) ?r6x8
      case y6x8 => as_aux_lemma => intro wx hSx; (try dsimp only at hSx); go_simp; try with_reducible rfl
      try simp only [Act.put, List.setIfInBounds_toArray, List.set_cons_zero, List.set_cons_succ]
      refine wpSched_call (i := 8) (by as_aux_lemma => rw [HO6.out]; simp only [List.getElem?_toArray, List.getElem?_cons_succ, List.getElem?_cons_zero]; rfl) (by rfl) (fun K' hK => ?_)
      go_simp
      refine (S1.out _ (by exact U.drew)).mono ?_
      rintro e wb ⟨rfl, hb⟩
      have Ub := Up.trans U.drew hb
      have s2 := HK.out _ Ub
      go_wp2_with fail
      refine hK.out _ _ s2 (fun _ => ?_)
      clear hK K'
      try simp only [Act.put, List.setIfInBounds_toArray, List.set_cons_zero, List.set_cons_succ]
      refine wpSched_take (i := 9) (v := ?v6x9) (by as_aux_lemma => rw [HO6.out]; simp only [List.getElem?_toArray, List.getElem?_cons_succ, List.getElem?_cons_zero]; rfl) (Or.inl ⟨(by rfl), ?y6x9⟩) ?r6x9
      case y6x9 => as_aux_lemma => intro wx hSx; (try dsimp only at hSx); go_simp; try with_reducible rfl
      try simp only [Act.put, List.setIfInBounds_toArray, List.set_cons_zero, List.set_cons_succ]
      refine wpSched_take (i := 10) (v := ?v6x10) (by as_aux_lemma => rw [HO6.out]; simp only [List.getElem?_toArray, List.getElem?_cons_succ, List.getElem?_cons_zero]; rfl) (Or.inl ⟨(by rfl), ?y6x10⟩) ?r6x10
      case y6x10 => as_aux_lemma => intro wx hSx; (try dsimp only at hSx); go_simp; try with_reducible rfl
      try simp only [Act.put, List.setIfInBounds_toArray, List.set_cons_zero, List.set_cons_succ]
      refine wpSched_take (i := 11) (v := ?v6x11) (by as_aux_lemma => rw [HO6.out]; simp only [List.getElem?_toArray, List.getElem?_cons_succ, List.getElem?_cons_zero]; rfl) (Or.inl ⟨(by as_aux_lemma => rw [HO6.out]; rfl), ?y6x11⟩) ?r6x11
      case y6x11 => as_aux_lemma => intro wx hSx; (try dsimp only at hSx); go_simp; try with_reducible rfl
      try simp only [Act.put, List.setIfInBounds_toArray, List.set_cons_zero, List.set_cons_succ]
      refine wpSched_take (i := 12) (v := ?v6x12) (by as_aux_lemma => rw [HO6.out]; simp only [List.getElem?_toArray, List.getElem?_cons_succ, List.getElem?_cons_zero]; rfl) (Or.inl ⟨(by as_aux_lemma => rw [HO6.out]; rfl), ?y6x12⟩) ?r6x12
      case y6x12 => as_aux_lemma => intro wx hSx; (try dsimp only at hSx); go_simp; try with_reducible rfl
      try simp only [Act.put, List.setIfInBounds_toArray, List.set_cons_zero, List.set_cons_succ]
      refine wpSched_take (i := 13) (v := ?v6x13) (by as_aux_lemma => rw [HO6.out]; simp only [List.getElem?_toArray, List.getElem?_cons_succ, List.getElem?_cons_zero]; rfl) (Or.inl ⟨(by as_aux_lemma => rw [HO6.out]; rfl), ?y6x13⟩) ?r6x13
      case y6x13 => as_aux_lemma => intro wx hSx; (try dsimp only at hSx); go_simp; try with_reducible rfl
      try simp only [Act.put, List.setIfInBounds_toArray, List.set_cons_zero, List.set_cons_succ]
      refine wpSched_take (i := 14) (v := ?v6x14) (by as_aux_lemma => rw [HO6.out]; simp only [List.getElem?_toArray, List.getElem?_cons_succ, List.getElem?_cons_zero]; rfl) (Or.inl ⟨(by as_aux_lemma => rw [HO6.out]; rfl), ?y6x14⟩) ?r6x14
      case y6x14 => as_aux_lemma => intro wx hSx; (try dsimp only at hSx); go_simp; try with_reducible rfl
      try simp only [Act.put, List.setIfInBounds_toArray, List.set_cons_zero, List.set_cons_succ]
      refine wpSched_call (i := 15) (by as_aux_lemma => rw [HO6.out]; simp only [List.getElem?_toArray, List.getElem?_cons_succ, List.getElem?_cons_zero]; rfl) (by as_aux_lemma => rw [HO6.out]; rfl) (fun K' hK => ?_)
      go_simp
      refine (S2.out _ (by exact Ub)).mono ?_
      rintro e wc ⟨rfl, hc⟩
      have Uc := Up.trans Ub hc
      have s3 := HK.out _ Uc
      go_wp2_with fail
      refine hK.out _ _ s3 (fun _ => ?_)
      clear hK K'
      try simp only [Act.put, List.setIfInBounds_toArray, List.set_cons_zero, List.set_cons_succ]
      refine wpSched_take (i := 16) (v := ?v6x15) (by as_aux_lemma => rw [HO6.out]; simp only [List.getElem?_toArray, List.getElem?_cons_succ, List.getElem?_cons_zero]; rfl) (Or.inl ⟨(by as_aux_lemma => rw [HO6.out]; rfl), ?y6x15⟩) ?r6x15
      case y6x15 => as_aux_lemma => intro wx hSx; (try dsimp only at hSx); go_simp; try with_reducible rfl
      try simp only [Act.put, List.setIfInBounds_toArray, List.set_cons_zero, List.set_cons_succ]
      refine wpSched_take (i := 17) (v := ?v6x16) (by as_aux_lemma => rw [HO6.out]; simp only [List.getElem?_toArray, List.getElem?_cons_succ, List.getElem?_cons_zero]; rfl) (Or.inl ⟨(by rfl), ?y6x16⟩) ?r6x16
      case y6x16 => as_aux_lemma => intro wx hSx; (try dsimp only at hSx); go_simp; try with_reducible rfl
      try simp only [Act.put, List.setIfInBounds_toArray, List.set_cons_zero, List.set_cons_succ]
      refine wpSched_end (NoPanic.normal ?_)
      clear HO6 O6
      go_wp2_with fail
      go_roundw
      case rel => exact ⟨5 + 1, by omega, by go_num, Uc⟩
      case measure => simp [intOf]
    · have HK : Hid (∀ W : World, Up w W → (W.cell? ⟨ga, 12, none⟩ = some (Value.slice (some ⟨g6, 0, none⟩) 26 26) ∧ W.cell? ⟨ga, 13, none⟩ = some (Value.slice (some ⟨h6, 0, none⟩) 26 26)) ∧ (W.cell? ⟨gb, 12, none⟩ = some (Value.slice (some ⟨g13, 0, none⟩) 26 26) ∧ W.cell? ⟨gb, 13, none⟩ = some (Value.slice (some ⟨h13, 0, none⟩) 26 26))) := Lib.hid fun W hU => by
        have a0 := (HA.out.up hU).cell 12
        have a1 := (HA.out.up hU).cell 13
        have b0 := (HB.out.up hU).cell 12
        have b1 := (HB.out.up hU).cell 13
        simp at a0 a1 b0 b1
        exact ⟨⟨a0, a1⟩, b0, b1⟩
      have S1 := Lib.hid (fun (W : World) (hU : Up w W) => sameM (by decide) (by decide) (N6.out W hU).1 (N6.out W hU).2 (N13.out W hU).1 (N13.out W hU).2)
      have S2 := Lib.hid (fun (W : World) (hU : Up w W) => validM (b := zero26) (f := zero26) (by decide) (by decide) (by decide) (N6.out W hU).1 (N6.out W hU).2)
      clear N0 N1 N2 N3 N4 N5 N6 N7 N8 N9 N10 N11 N12 N13 HA HB
      have s0 := HK.out _ U
      go_wp2_with fail
      refine wp_region_noPanic ?_
      refine wp_region_sched (S := (fun wx => (wx.cell? ⟨ga, 12, none⟩ = some (Value.slice (some ⟨g6, 0, none⟩) 26 26) ∧ wx.cell? ⟨ga, 13, none⟩ = some (Value.slice (some ⟨h6, 0, none⟩) 26 26)) ∧ (wx.cell? ⟨gb, 12, none⟩ = some (Value.slice (some ⟨g13, 0, none⟩) 26 26) ∧ wx.cell? ⟨gb, 13, none⟩ = some (Value.slice (some ⟨h13, 0, none⟩) 26 26)))) [(0, false), (1, false), (2, false), (3, false), (4, false), (5, false), (6, false), (7, false), (8, true), (9, false), (10, false), (11, false), (12, false), (13, false), (14, false), (15, true), (16, false), (17, false)] (by kernel_rfl) (by as_aux_lemma => kernel_rfl) (by as_aux_lemma => kernel_rfl) (by as_aux_lemma => kernel_rfl) (fun _ _ _ _ _ h => h) s0 ?_
      intro O7 HO7
      refine wpSched_take (i := 0) (v := ?v7x1) (by as_aux_lemma => rw [HO7.out]; simp only [List.getElem?_toArray, List.getElem?_cons_zero]; rfl) (Or.inl ⟨(by rfl), ?y7x1⟩) ?r7x1
      case y7x1 => as_aux_lemma => intro wx hSx; (try dsimp only at hSx); go_simp; try with_reducible rfl
      try simp only [Act.put, List.setIfInBounds_toArray, List.set_cons_zero, List.set_cons_succ]
      refine wpSched_take (i := 1) (v := ?v7x2) (by as_aux_lemma => rw [HO7.out]; simp only [List.getElem?_toArray, List.getElem?_cons_succ, List.getElem?_cons_zero]; rfl) (Or.inl ⟨(by rfl), ?y7x2⟩) ?r7x2
      case y7x2 => as_aux_lemma => intro wx hSx; (try dsimp only at hSx); go_simp; try with_reducible rfl
      try simp only [Act.put, List.setIfInBounds_toArray, List.set_cons_zero, List.set_cons_succ]
      refine wpSched_take (i := 2) (v := ?v7x3) (by as_aux_lemma => rw [HO7.out]; simp only [List.getElem?_toArray, List.getElem?_cons_succ, List.getElem?_cons_zero]; rfl) (Or.inl ⟨(by rfl), ?y7x3⟩) ?r7x3
      case y7x3 => as_aux_lemma => intro wx hSx; (try dsimp only at hSx); go_simp; try with_reducible rfl
      try simp only [Act.put, List.setIfInBounds_toArray, List.set_cons_zero, List.set_cons_succ]
      refine wpSched_take (i := 3) (v := ?v7x4) (by as_aux_lemma => rw [HO7.out]; simp only [List.getElem?_toArray, List.getElem?_cons_succ, List.getElem?_cons_zero]; rfl) (Or.inl ⟨(by rfl), ?y7x4⟩) ?r7x4
      case y7x4 => as_aux_lemma => intro wx hSx; (try dsimp only at hSx); go_simp; try with_reducible rfl
      try simp only [Act.put, List.setIfInBounds_toArray, List.set_cons_zero, List.set_cons_succ]
      refine wpSched_take (i := 4) (v := ?v7x5) (by as_aux_lemma => rw [HO7.out]; simp only [List.getElem?_toArray, List.getElem?_cons_succ, List.getElem?_cons_zero]; rfl) (Or.inl ⟨(by rfl), ?y7x5⟩) ?r7x5
      case y7x5 => as_aux_lemma => intro wx hSx; (try dsimp only at hSx); go_simp; try with_reducible rfl
      try simp only [Act.put, List.setIfInBounds_toArray, List.set_cons_zero, List.set_cons_succ]
      refine wpSched_take (i := 5) (v := ?v7x6) (by as_aux_lemma => rw [HO7.out]; simp only [List.getElem?_toArray, List.getElem?_cons_succ, List.getElem?_cons_zero]; rfl) (Or.inl ⟨(by rfl), ?y7x6⟩) ?r7x6
      case y7x6 => as_aux_lemma => intro wx hSx; (try dsimp only at hSx); go_simp; try with_reducible rfl
      try simp only [Act.put, List.setIfInBounds_toArray, List.set_cons_zero, List.set_cons_succ]
      refine wpSched_take (i := 6) (v := ?v7x7) (by as_aux_lemma => rw [HO7.out]; simp only [List.getElem?_toArray, List.getElem?_cons_succ, List.getElem?_cons_zero]; rfl) (Or.inl ⟨(by rfl), ?y7x7⟩) ?r7x7
      case y7x7 => as_aux_lemma => intro wx hSx; (try dsimp only at hSx); go_simp; try with_reducible rfl
      try simp only [Act.put, List.setIfInBounds_toArray, List.set_cons_zero, List.set_cons_succ]
      refine wpSched_take (i := 7) (v := ?v7x8) (by as_aux_lemma => rw [HO7.out]; simp only [List.getElem?_toArray, List.getElem?_cons_succ, List.getElem?_cons_zero]; rfl) (Or.inl ⟨(by rfl), ?y7x8⟩) ?r7x8
      case y7x8 => as_aux_lemma => intro wx hSx; (try dsimp only at hSx); go_simp; try with_reducible rfl
      try simp only [Act.put, List.setIfInBounds_toArray, List.set_cons_zero, List.set_cons_succ]
      refine wpSched_call (i := 8) (by as_aux_lemma => rw [HO7.out]; simp only [List.getElem?_toArray, List.getElem?_cons_succ, List.getElem?_cons_zero]; rfl) (by rfl) (fun K' hK => ?_)
      go_simp
      refine (S1.out _ (by exact U.drew)).mono ?_
      rintro e wb ⟨rfl, hb⟩
      have Ub := Up.trans U.drew hb
      have s2 := HK.out _ Ub
      go_wp2_with fail
      refine hK.out _ _ s2 (fun _ => ?_)
      clear hK K'
      try simp only [Act.put, List.setIfInBounds_toArray, List.set_cons_zero, List.set_cons_succ]
      refine wpSched_take (i := 9) (v := ?v7x9) (by as_aux_lemma => rw [HO7.out]; simp only [List.getElem?_toArray, List.getElem?_cons_succ, List.getElem?_cons_zero]; rfl) (Or.inl ⟨(by rfl), ?y7x9⟩) ?r7x9
      case y7x9 => as_aux_lemma => intro wx hSx; (try dsimp only at hSx); go_simp; try with_reducible rfl
      try simp only [Act.put, List.setIfInBounds_toArray, List.set_cons_zero, List.set_cons_succ]
      refine wpSched_take (i := 10) (v := ?v7x10) (by as_aux_lemma => rw [HO7.out]; simp only [List.getElem?_toArray, List.getElem?_cons_succ, List.getElem?_cons_zero]; rfl) (Or.inl ⟨(by rfl), ?y7x10⟩) ?r7x10
      case y7x10 => as_aux_lemma => intro wx hSx; (try dsimp only at hSx); go_simp; try with_reducible rfl
      try simp only [Act.put, List.setIfInBounds_toArray, List.set_cons_zero, List.set_cons_succ]
      refine wpSched_take (i := 11) (v := ?v7x11) (by as_aux_lemma => rw [HO7.out]; simp only [List.getElem?_toArray, List.getElem?_cons_succ, List.getElem?_cons_zero]; rfl) (Or.inl ⟨(by as_aux_lemma => rw [HO7.out]; rfl), ?y7x11⟩) ?r7x11
      case y7x11 => as_aux_lemma => intro wx hSx; (try dsimp only at hSx); go_simp; try with_reducible rfl
      try simp only [Act.put, List.setIfInBounds_toArray, List.set_cons_zero, List.set_cons_succ]
      refine wpSched_take (i := 12) (v := ?v7x12) (by as_aux_lemma => rw [HO7.out]; simp only [List.getElem?_toArray, List.getElem?_cons_succ, List.getElem?_cons_zero]; rfl) (Or.inl ⟨(by as_aux_lemma => rw [HO7.out]; rfl), ?y7x12⟩) ?r7x12
      case y7x12 => as_aux_lemma => intro wx hSx; (try dsimp only at hSx); go_simp; try with_reducible rfl
      try simp only [Act.put, List.setIfInBounds_toArray, List.set_cons_zero, List.set_cons_succ]
      refine wpSched_take (i := 13) (v := ?v7x13) (by as_aux_lemma => rw [HO7.out]; simp only [List.getElem?_toArray, List.getElem?_cons_succ, List.getElem?_cons_zero]; rfl) (Or.inl ⟨(by as_aux_lemma => rw [HO7.out]; rfl), ?y7x13⟩) ?r7x13
      case y7x13 => as_aux_lemma => intro wx hSx; (try dsimp only at hSx); go_simp; try with_reducible rfl
      try simp only [Act.put, List.setIfInBounds_toArray, List.set_cons_zero, List.set_cons_succ]
      refine wpSched_take (i := 14) (v := ?v7x14) (by as_aux_lemma => rw [HO7.out]; simp only [List.getElem?_toArray, List.getElem?_cons_succ, List.getElem?_cons_zero]; rfl) (Or.inl ⟨(by as_aux_lemma => rw [HO7.out]; rfl), ?y7x14⟩) ?r7x14
      case y7x14 => as_aux_lemma => intro wx hSx; (try dsimp only at hSx); go_simp; try with_reducible rfl
      try simp only [Act.put, List.setIfInBounds_toArray, List.set_cons_zero, List.set_cons_succ]
      refine wpSched_call (i := 15) (by as_aux_lemma => rw [HO7.out]; simp only [List.getElem?_toArray, List.getElem?_cons_succ, List.getElem?_cons_zero]; rfl) (by as_aux_lemma => rw [HO7.out]; rfl) (fun K' hK => ?_)
      go_simp
      refine (S2.out _ (by exact Ub)).mono ?_
      rintro e wc ⟨rfl, hc⟩
      have Uc := Up.trans Ub hc
      have s3 := HK.out _ Uc
      go_wp2_with fail
      refine hK.out _ _ s3 (fun _ => ?_)
      clear hK K'
      try simp only [Act.put, List.setIfInBounds_toArray, List.set_cons_zero, List.set_cons_succ]
      refine wpSched_take (i := 16) (v := ?v7x15) (by as_aux_lemma => rw [HO7.out]; simp only [List.getElem?_toArray, List.getElem?_cons_succ, List.getElem?_cons_zero]; rfl) (Or.inl ⟨(by as_aux_lemma => rw [HO7.out]; rfl), ?y7x15⟩) ?r7x15
      case y7x15 => as_aux_lemma => intro wx hSx; (try dsimp only at hSx); go_simp; try with_reducible rfl
      try simp only [Act.put, List.setIfInBounds_toArray, List.set_cons_zero, List.set_cons_succ]
      refine wpSched_take (i := 17) (v := ?v7x16) (by as_aux_lemma => rw [HO7.out]; simp only [List.getElem?_toArray, List.getElem?_cons_succ, List.getElem?_cons_zero]; rfl) (Or.inl ⟨(by rfl), ?y7x16⟩) ?r7x16
      case y7x16 => as_aux_lemma => intro wx hSx; (try dsimp only at hSx); go_simp; try with_reducible rfl
      try simp only [Act.put, List.setIfInBounds_toArray, List.set_cons_zero, List.set_cons_succ]
      refine wpSched_end (NoPanic.normal ?_)
      clear HO7 O7
      go_wp2_with fail
      go_roundw
      case rel => exact ⟨6 + 1, by omega, by go_num, Uc⟩
      case measure => simp [intOf]
    · go_wp2_with fail
      refine (awake_any _).mono ?_
      rintro e wc ⟨rfl, hc⟩
      go_wp2_with fail
      go_ret
      exact ⟨rfl, Up.trans HU.out (Up.trans U hc)⟩

open Go.ChangeShapes Go.WideShapes Go.ChangeAt Go.Joins
open Go.ChangeMaps (open_string shut_string)
set_option maxRecDepth 100000 in
theorem MetricNamed.lifted (os : Os) (started : os.Started) (H : Type) (enc : TypeId × Value → H) :
    ReturnsInHanded {} Try.checked os 11 .any (Rows.metricNamedSpec.pre6 enc Try.prog Try.f11 Rows.metricNamedRow.domain false) (Rows.metricNamedSpec.post enc Try.prog Try.f11 false true false false) := by
  refine returnsInHanded_of_change (C := Try.checked) own started (by kernel_rfl) Try.func11
    (ChangeSpec.witness6 (enc := enc) (C := Try.checked) false ⟨#[], #[], []⟩ 8 (by kernel_rfl) (by kernel_rfl) (by kernel_rfl) (by kernel_rfl)) ?_
  intro W base args ds gs before hval0 hW hcnd _
  have hval : ∀ (j : Nat) t v, Try.f11.params[j]? = some t → args[j]? = some v → Value.okWide Try.prog W .any base t v := hval0
  have hW' := hW
  obtain ⟨p, q, hA0, hV, rfl, hfz, hnd⟩ := hW
  have hA : DataW.TrodAll enc Try.prog W 0 (fun _ => true) true Try.f11.params.toList args.toList ds p := hA0
  rw [Try.params11] at hA hval
  obtain ⟨hargs, rfl, rfl⟩ := trodAll_nil hA
  obtain rfl : args = #[] := by cases args; simp_all
  obtain ⟨rfl, rfl⟩ := trodVars_none hV
  clear hA0 hval0
  refine (MetricNamed_walk  W ).mono fun e W' ⟨he, bel⟩ => ?_
  subst he
  exact ⟨_, rfl, _, _, _, [], _, [], hW', trodAll_mk1 (shut_bool Try.underlying4 _), trodAll_mk0, rfl, bel.frame _, fun h => by cases h⟩

theorem MetricNamed.over : Rows.metricNamedRow.holds Try.pinned (OpenSpec.ofChange Rows.metricNamedSpec) :=
  OpenClaim.holds_of_wide 11 Try.f11 rfl rfl rfl rfl rfl rfl rfl ⟨rfl, rfl, rfl, rfl, rfl⟩ rfl rfl rfl rfl rfl (by kernel_rfl) Try.func11 (by kernel_rfl)
    (of_decide_eq_true (by kernel_rfl)) (by unfold Func.isWrapper; first | (rw [if_pos (by decide +kernel)]; kernel_rfl) | (rw [if_neg (by decide +kernel)]; exact ⟨rfl, rfl⟩))
    (fun os started H enc _ => MetricNamed.lifted os started H enc)

theorem MetricNamed_holds : Rows.MetricNamedSaid := MetricNamed.over
end Go.Proofs.Ytnaeabkknmoaeaa
