/-
  binomial.Powers.
-/
import Derived.Test.YtkngegcfdabpoaaLPowC
import Derived.Test.YtkngegcfdabpoaaLPowT
import Derived.Test.YtkngegcfdabpoaaLApp
import Derived.Test.YtkngegcfdabpoaaLZero
import Derived.Test.YtkngegcfdabpoaaLAt
import Derived.Test.YtkngegcfdabpoaaPF
namespace Go.Proofs.Ytkngegcfdabpoaa
open Go.RowKit

/-- The measure: one more than the integer that p points at. -/
def powM (p : Value) (w : World) : Nat := match p with
  | .pointer (some a) => (match w.cell? a with
    | some (.int _ z) => (z + 1).toNat
    | _ => 0)
  | _ => 0
theorem powM_of {w : World} {g : Nat} {t : TypeId} {z : Int} (h : Blk w g t #[.int .i64 z]) : powM (.pointer (some ⟨g, 0, none⟩)) w = (z + 1).toNat := by
  unfold powM
  simp only [int_cell h]
theorem Blk.put3' {w : World} {g h : Nat} {t : TypeId} {cs : Array Value} (hb : Blk w h t cs) (hne : h ≠ g) (i : Nat) (x y z : Value) : Blk (put3 w g i x y z) h t cs :=
  ((put3_only w g i x y z).block h hb.lt (fun e => hne (by injection e))).trans hb
/-- A block of numbers as a row of the call's own. -/
theorem OX.ax {o : Option Nat} {w : World} {g base : Nat} {ps : List Rat} (h : OX o w g ps) (hb : base ≤ g) (hl : ps.length ≤ 1000000) : AX o w base (.slice (some ⟨g, 0, none⟩) ps.length ps.length) ps := by
  have hn := h.noint
  obtain ⟨vs, h1, h2⟩ := h
  refine ⟨vs, ⟨cs3_len vs, .inr ⟨g, ps.length, (cs3 vs).toArray, by rw [h2.1], hb, h1, by rw [h2.1]; exact Nat.le_refl _, by simp only [maxLen]; omega, by rw [List.size_toArray, cs3_len, h2.1], by rw [← cs3_len]; exact List.take_length⟩⟩, h2, fun g' hg p k z hp => ?_⟩
  simp only [Value.ownBlock, Option.some.injEq] at hg
  subst hg
  exact hn p k z hp

set_option maxRecDepth 100000 in
set_option maxHeartbeats 6400000 in
theorem powers_q {o : Option Nat} {A0 : Option Addr} {cap0 : Nat} {ps : List Rat} {B : Nat} {w : World} (h : RX o w A0 ps) (hB : ∀ q ∈ ps, XB o q B) (hB2 : 2 ≤ B) (hB' : B ≤ 100000) (hl : ps.length ≤ 1000) :
    Calls Try.prog 18 #[.slice A0 ps.length cap0] w (RetLB w (powV ps) (powB ps)) := by
  have HNO := @pow_no ps
  by_cases h33 : ps.length ≤ 33
  · have HP := Lib.hid (pow_yes h33)
    have hq := h.qs hB
    obtain ⟨C, hC⟩ : ∃ C, C = pB (B + 1) := ⟨_, rfl⟩
    have hCB : C ≤ 7000000 ∧ 3 ≤ C := by rw [hC]; unfold pB; omega
    obtain ⟨hC1, hC2⟩ := hCB
    have HQP := Lib.hid (fun r i (hr : r ≤ 64) => show qs (pwR ps r i) ≤ C from by rw [hC]; exact qs_pwR ps (B + 1) hq (by omega) r i hr)
    have HQI := Lib.hid (qs_getD hq (by omega))
    have HR := Lib.hid (h.iv hB)
    obtain ⟨N, hN⟩ : ∃ L, L = ps.length := ⟨_, rfl⟩
    have HL := Lib.hid hN
    rw [← hN] at hl h33 ⊢
    have t0 : decide (33 < N) = false := by simp; omega
    have t0i : decide ((33 : Int) < (N : Int)) = false := by simp; omega
    have i0 : (N : Int) ≤ 33 := by omega
    clear h hB hN hC hq HNO
    go_enter Try.func18, Try.ntmps18
    go_wp2_with fail
    obtain ⟨w1, hw1⟩ : ∃ w1, w1 = w.alloc (Obj.cells #[.int .i64 ((N : Int) - 1)] 3) := ⟨_, rfl⟩
    have U1 : Up w w1 := by rw [hw1]; exact (Below.refl _ _).alloc (Nat.le_refl _) _
    have b1 : Blk w1 w.heap.size 3 #[.int .i64 ((N : Int) - 1)] := by rw [hw1]; exact Blk.new' _ _ _ rfl
    rw [← hw1]
    clear hw1
    obtain ⟨g1, hg1⟩ : ∃ g, g = w.heap.size := ⟨_, rfl⟩
    have hge1 : w.heap.size ≤ g1 := by omega
    rw [← hg1] at b1 ⊢
    have HB1 := Lib.hid b1
    clear b1 hg1 t0 t0i
    go_loopw [4, 5] (fun v p wr => ∃ K : Nat, ∃ acc : List Rat, ∃ A c gk, K ≤ N ∧ v = .slice A acc.length c ∧ p = .pointer (some ⟨gk, 0, none⟩) ∧ Hid (RX none wr A acc ∧ acc.length + K = N ∧ (∀ i, acc.getD i 0 = pwR ps acc.length i) ∧ (A = none → c = 0)) ∧ Hid (Blk wr gk 3 #[.int .i64 ((K : Int) - 1)]) ∧ w.heap.size ≤ gk ∧ Up w wr) (fun _ p wr => powM p wr)
    case atStart => exact ⟨N, [], none, 0, g1, Nat.le_refl _, rfl, rfl, Lib.hid ⟨RX.nil_, by simp, fun i => rfl, fun _ => rfl⟩, HB1, hge1, U1⟩
    case round =>
      obtain ⟨K, acc, A, c, gk, hKN, rfl, rfl, HH, HB, hgk, hU⟩ := hrel
      clear HB1 hge1 U1
      by_cases hK : K = 0
      · subst hK
        have hb := HB.out
        rw [show ((0 : Nat) : Int) - 1 = -1 from rfl] at hb
        have kc := int_cell hb
        have t1 : decide ((0 : Int) ≤ -1) = false := by decide
        have hacc := HH.out
        have HCT := Lib.hid (show cutL acc = cutL (powL ps) from by
          congr 1
          have hlen : acc.length = ps.length := by have := hacc.2.1; have := HL.out; omega
          refine List.ext_getElem (by rw [hlen, powL_len]) fun i h1 h2 => ?_
          have e := hacc.2.2.1 i
          rw [getD_eq h1, hlen] at e
          rw [e]; simp [powL])
        have HCN := bCanonical_q (cap := c) hacc.1 (B := C) (fun q hq => by
          obtain ⟨i, hi, rfl⟩ := List.getElem_of_mem hq
          have e := hacc.2.2.1 i
          rw [getD_eq hi] at e
          show qs _ ≤ _
          rw [e]; exact HQP.out _ i (by have := hacc.2.1; omega)) (by omega) (by have := hacc.2.1; omega)
        rw [HCT.out, ← HP.out.1] at HCN
        have HCN := Lib.hid HCN
        have HML := Lib.hid (powV_len ps)
        clear hacc HCT HH hb HB
        go_wp2_with fail
        refine HCN.out.mono ?_
        rintro e w10 ⟨g10, rfl, h1, h2, h3⟩
        have H9 := Lib.hid h2.rx
        clear h2
        go_wp2_with fail
        go_ret2
        exact ⟨_, _, by rw [HP.out.2]; rfl, Nat.le_refl _, by have := HML.out; have := HL.out; omega, H9.out, hU.trans h3⟩
      · obtain ⟨k, rfl⟩ : ∃ k, K = k + 1 := ⟨K - 1, by omega⟩
        have hb := HB.out
        rw [show ((k + 1 : Nat) : Int) - 1 = (k : Int) by omega] at hb
        have HM0 := Lib.hid (powM_of hb)
        have HBK := Lib.hid hb
        have kc := int_cell hb
        have t1 : decide ((0 : Int) ≤ (k : Int)) = true := by simp
        have lk := hb.lt
        have HZ := Lib.hid (zeros_q 1 (by omega) (w := wr))
        clear hb HB hK
        go_wp2_with fail
        refine HZ.out.mono ?_
        rintro e w2 ⟨g2, he, hg2, hO2, U2⟩
        rw [List.length_replicate] at he
        subst he
        have hax := hO2.ax (base := wr.heap.size) hg2 (by simp)
        rw [List.length_replicate] at hax
        have HAX := Lib.hid hax
        have HRO := Lib.hid (HH.out.1.up U2)
        have HLN := Lib.hid (show (List.replicate 1 (0 : Rat)).length + acc.length ≤ 1000000 by have := HH.out.2.1; simp; omega)
        have hsz2 := U2.size
        clear hO2 hax HZ
        go_wp2_with (first
          | (at_builtin; refine wpList_append_rats rfl _ _ rfl rfl HAX.out rfl rfl HRO.out HH.out.2.2.2 HLN.out hsz2 ?_))
        intro v3 w3 h3
        have U3 : Up wr w3 := h3.below U2 HAX.out hsz2
        obtain ⟨A3, c3, rfl, _, _, hr3⟩ := h3.own.rx
        have HR3 := Lib.hid hr3
        have HRW := Lib.hid (HH.out.1.up U3)
        have bk3 := HBK.out.up U3
        have kc3 := int_cell bk3
        have HCL := Lib.hid (fun q (hq : q ∈ acc) => show XB none q C from by
          obtain ⟨i, hi, rfl⟩ := List.getElem_of_mem hq
          have e := HH.out.2.2.1 i
          rw [getD_eq hi] at e
          show qs _ ≤ _
          rw [e]; exact HQP.out _ i (by have := HH.out.2.1; omega))
        have HC1 := combine_q (A1 := A) (c1 := c) (A2 := none) (c2 := 0) (ps := acc) (rs := []) (B := C) 42 #[.pointer (some ⟨gk, 0, none⟩)] (fun a _ => a * ((-(k : Int) : Int) : Rat)) (HRW.out.iv HCL.out) (RX.nil_ (o := some C)) (by have := HH.out.2.1; omega) (by simp) (enters_own Try.func42 (by kernel_rfl) rfl) (fun wx va vb i hi u hva hvb => pw1_q hva (XV.shp (o := some C) hvb) (bk3.up u) (by omega) (by omega))
        rw [List.length_nil] at HC1
        have HC1 := Lib.hid HC1
        have hmf : ∀ (fn : Fn) (first cap : Array Value) (w : World), (Instr.makeFunc fn first cap).run Try.prog w = .ok (.func fn first cap) w := fun _ _ _ _ => rfl
        clear hr3 h3 HAX HRO HLN hsz2
        go_wp2_with fail
        refine HC1.out.mono ?_
        rintro e w4 ⟨g4, rfl, hg4, hO4, U4⟩
        have HAG := Lib.hid (fun i => Nat.le_trans (Nat.le_of_eq (congrArg qs (HH.out.2.2.1 i))) (HQP.out acc.length i (by have := HH.out.2.1; omega)))
        have HQR := Lib.hid (show ∀ q ∈ List.replicate 1 (0 : Rat) ++ acc, XB none q (C + 10) from fun q hq => by
          rcases List.mem_append.1 hq with hq | hq
          · rw [List.eq_of_mem_replicate hq]; have := qs_zero; show qs 0 ≤ _; omega
          · exact Nat.le_trans (HCL.out q hq) (by omega))
        have HQL := Lib.hid (show ∀ q ∈ combL (fun a _ => a * ((-(k : Int) : Int) : Rat)) acc [], XB none q (C + 10) from fun q hq => by
          simp only [combL, List.mem_map] at hq
          obtain ⟨i, _, rfl⟩ := hq
          have a1 := qs_mul (acc.getD i 0) ((-(k : Int) : Int) : Rat)
          have a2 := qs_int (-(k : Int)) (by omega) (by omega)
          have a3 := HAG.out i
          show qs _ ≤ _
          omega)
        have HPS := pow_step ps acc.length k acc (by have := HH.out.2.1; have := HL.out; omega) rfl HH.out.2.2.1
        have bk4 := bk3.up U4
        have kc4 := int_cell bk4
        have HC2 := combine_q (A1 := A3) (c1 := c3) (A2 := some ⟨g4, 0, none⟩) (c2 := (combL (fun a _ => a * ((-(k : Int) : Int) : Rat)) acc []).length) (ps := List.replicate 1 0 ++ acc) (rs := combL (fun a _ => a * ((-(k : Int) : Int) : Rat)) acc []) (B := C + 10) 43 #[.pointer (some ⟨gk, 0, none⟩)] (fun a b => (a + b) * (((1 : Int) : Rat) / (((k : Int) + 1 : Int) : Rat))) ((HR3.out.up U4).iv HQR.out) (hO4.rx.iv HQL.out) (by have := HH.out.2.1; simp; omega) (by rw [combL_len]; have := HH.out.2.1; simp; omega) (enters_own Try.func43 (by kernel_rfl) rfl) (fun wx va vb i hi u hva hvb => pw2_q hva hvb (bk4.up u) (by omega) (by omega))
        have HQ0 : qs ((combL (fun a b => (a + b) * (((1 : Int) : Rat) / (((k : Int) + 1 : Int) : Rat))) (List.replicate 1 0 ++ acc) (combL (fun a _ => a * ((-(k : Int) : Int) : Rat)) acc [])).getD 0 0) ≤ 2 * C + 40 := by
          rw [combL_getD _ _ _ _ (by rw [← combL_len, HPS.1]; omega)]
          have a1 := qs_mul ((List.replicate 1 0 ++ acc).getD 0 0 + (combL (fun a _ => a * ((-(k : Int) : Int) : Rat)) acc []).getD 0 0) (((1 : Int) : Rat) / (((k : Int) + 1 : Int) : Rat))
          have a2 := qs_add ((List.replicate 1 0 ++ acc).getD 0 0) ((combL (fun a _ => a * ((-(k : Int) : Int) : Rat)) acc []).getD 0 0)
          have a3 := qs_getD (B := C + 10) HQR.out (by omega) 0
          have a4 := qs_getD (B := C + 10) HQL.out (by omega) 0
          have a5 := qs_div ((1 : Int) : Rat) (((k : Int) + 1 : Int) : Rat)
          have a6 := qs_int 1 (by omega) (by omega)
          have a7 := qs_int ((k : Int) + 1) (by omega) (by omega)
          omega
        obtain ⟨l5, hl5⟩ : ∃ l, l = combL (fun a b => (a + b) * (((1 : Int) : Rat) / (((k : Int) + 1 : Int) : Rat))) (List.replicate 1 0 ++ acc) (combL (fun a _ => a * ((-(k : Int) : Int) : Rat)) acc []) := ⟨_, rfl⟩
        rw [← hl5] at HPS HC2 HQ0
        replace HC2 := Lib.hid HC2
        have HPS := Lib.hid HPS
        have HQ0 := Lib.hid HQ0
        have HLL := Lib.hid (show (combL (fun a _ => a * ((-(k : Int) : Int) : Rat)) acc []).length = acc.length by rw [combL_len]; simp)
        clear hl5 hO4 HQL HQR HAG HC1 HR3 HCL
        go_wp2_with fail
        refine HC2.out.mono ?_
        rintro e w5 ⟨g5, rfl, hg5, hO5, U5⟩
        have HO5 := Lib.hid hO5
        have V5 := U3.trans (U4.trans U5)
        have h05 : 0 < l5.length := by rw [HPS.out.1]; omega
        obtain ⟨so, Xo, ao, co, Yo, mo, do_, hox, k0, k1, k2⟩ := hO5.at_ h05
        simp only [Nat.zero_mul, Nat.zero_add] at k0 k1 k2
        have lg5 := hO5.lt
        have bk5 := bk4.up U5
        have kc5 := int_cell bk5
        have lk5 := bk5.lt
        have nk : gk ≠ g5 := by have := V5.size; have := U3.size; have := U4.size; omega
        have nk' : g5 ≠ gk := fun e => nk e.symm
        obtain ⟨b, off, s, X, a, cc, Y, m, d, he, hb, hx, c0, c1, c2⟩ := (HR.out.up hU).at_ (k := k) (by have := HL.out; omega)
        subst he
        have hbw : b < w5.heap.size := Nat.lt_of_lt_of_le hb V5.size
        have c0w := (V5.cell (p := ⟨b, off + k * 3, none⟩) hb).trans c0
        have c1w := (V5.cell (p := ⟨b, off + k * 3 + 1, none⟩) hb).trans c1
        have c2w := (V5.cell (p := ⟨b, off + k * 3 + 2, none⟩) hb).trans c2
        have HAD := Lib.hid (fun wx (u : Up w5 wx) => add_q (XV.iv (o := none) (hox.up u) HQ0.out) (XV.iv (hx.up (V5.trans u)) (B := B) (Nat.le_refl _)) (by omega))
        have HST := Lib.hid HPS.out.2
        obtain ⟨z, hz⟩ : ∃ z, z = l5.getD 0 0 + ps.getD k 0 := ⟨_, rfl⟩
        rw [← hz] at HAD HST
        have H05 := Lib.hid h05
        have i1 : (0 : Int) ≤ k := by omega
        have i2 : (k : Int) < N := by omega
        have HLA := Lib.hid HPS.out.1
        have HE : Hid (∀ W : World, Up w5 W → (W.cell? ⟨g5, 0, none⟩ = some (.bool so) ∧ W.cell? ⟨g5, 1, none⟩ = some (.slice Xo ao co) ∧ W.cell? ⟨g5, 2, none⟩ = some (.slice Yo mo do_)) ∧ (W.cell? ⟨b, off + k * 3, none⟩ = some (.bool s) ∧ W.cell? ⟨b, off + k * 3 + 1, none⟩ = some (.slice X a cc) ∧ W.cell? ⟨b, off + k * 3 + 2, none⟩ = some (.slice Y m d)) ∧ (W.cell? ⟨gk, 0, none⟩ = some (.int .i64 (k : Int)))) := Lib.hid fun W hW => And.intro (⟨by rw [hW.cell (by exact lg5)]; exact k0, by rw [hW.cell (by exact lg5)]; exact k1, by rw [hW.cell (by exact lg5)]; exact k2⟩) (And.intro (⟨by rw [hW.cell (by exact hbw)]; exact c0w, by rw [hW.cell (by exact hbw)]; exact c1w, by rw [hW.cell (by exact hbw)]; exact c2w⟩) (int_cell (bk5.up hW)))
        clear hz hox hx hO5 h05 c0 c1 c2 HPS kc kc3 kc4 HC2
        go_wp2_with fail
        refine wp_region_noPanic ?_
        refine wp_region_till (S := (fun wx => (wx.cell? ⟨g5, 0, none⟩ = some (.bool so) ∧ wx.cell? ⟨g5, 1, none⟩ = some (.slice Xo ao co) ∧ wx.cell? ⟨g5, 2, none⟩ = some (.slice Yo mo do_)) ∧ (wx.cell? ⟨b, off + k * 3, none⟩ = some (.bool s) ∧ wx.cell? ⟨b, off + k * 3 + 1, none⟩ = some (.slice X a cc) ∧ wx.cell? ⟨b, off + k * 3 + 2, none⟩ = some (.slice Y m d)) ∧ (wx.cell? ⟨gk, 0, none⟩ = some (.int .i64 (k : Int))))) 10 [(0, 0), (1, 0), (2, 0), (3, 0), (4, 0), (5, 0), (6, 0), (7, 0), (8, 1), (9, 0)] [10] (by kernel_rfl) (by as_aux_lemma => kernel_rfl) (by as_aux_lemma => kernel_rfl) (by as_aux_lemma => kernel_rfl) (fun _ _ _ _ _ h => h) (HE.out _ (Up.refl w5).drew) ?_
        intro O7 HO7
        refine wpT_take (i := 0) (v := ?_) (by as_aux_lemma => rw [HO7.out]; simp only [List.getElem?_toArray, List.getElem?_cons_zero]; rfl) (Or.inl ⟨(by rfl), ?_⟩) ?_
        rotate_left
        · as_aux_lemma => intro wx hSx; (try dsimp only at hSx); go_simp; try with_reducible rfl
        try simp only [Act.put, List.setIfInBounds_toArray, List.set_cons_zero, List.set_cons_succ]
        refine wpT_take (i := 1) (v := ?_) (by as_aux_lemma => rw [HO7.out]; simp only [List.getElem?_toArray, List.getElem?_cons_succ, List.getElem?_cons_zero]; rfl) (Or.inl ⟨(by rfl), ?_⟩) ?_
        rotate_left
        · as_aux_lemma => intro wx hSx; (try dsimp only at hSx); go_simp; try with_reducible rfl
        try simp only [Act.put, List.setIfInBounds_toArray, List.set_cons_zero, List.set_cons_succ]
        refine wpT_take (i := 2) (v := ?_) (by as_aux_lemma => rw [HO7.out]; simp only [List.getElem?_toArray, List.getElem?_cons_succ, List.getElem?_cons_zero]; rfl) (Or.inl ⟨(by rfl), ?_⟩) ?_
        rotate_left
        · as_aux_lemma => intro wx hSx; (try dsimp only at hSx); go_simp; try with_reducible rfl
        try simp only [Act.put, List.setIfInBounds_toArray, List.set_cons_zero, List.set_cons_succ]
        refine wpT_take (i := 3) (v := ?_) (by as_aux_lemma => rw [HO7.out]; simp only [List.getElem?_toArray, List.getElem?_cons_succ, List.getElem?_cons_zero]; rfl) (Or.inl ⟨(by rfl), ?_⟩) ?_
        rotate_left
        · as_aux_lemma => intro wx hSx; (try dsimp only at hSx); go_simp; try with_reducible rfl
        try simp only [Act.put, List.setIfInBounds_toArray, List.set_cons_zero, List.set_cons_succ]
        refine wpT_take (i := 4) (v := ?_) (by as_aux_lemma => rw [HO7.out]; simp only [List.getElem?_toArray, List.getElem?_cons_succ, List.getElem?_cons_zero]; rfl) (Or.inl ⟨(by rfl), ?_⟩) ?_
        rotate_left
        · as_aux_lemma => intro wx hSx; (try dsimp only at hSx); go_simp; try with_reducible rfl
        try simp only [Act.put, List.setIfInBounds_toArray, List.set_cons_zero, List.set_cons_succ]
        refine wpT_take (i := 5) (v := ?_) (by as_aux_lemma => rw [HO7.out]; simp only [List.getElem?_toArray, List.getElem?_cons_succ, List.getElem?_cons_zero]; rfl) (Or.inl ⟨(by rfl), ?_⟩) ?_
        rotate_left
        · as_aux_lemma => intro wx hSx; (try dsimp only at hSx); go_simp; try with_reducible rfl
        try simp only [Act.put, List.setIfInBounds_toArray, List.set_cons_zero, List.set_cons_succ]
        refine wpT_take (i := 6) (v := ?_) (by as_aux_lemma => rw [HO7.out]; simp only [List.getElem?_toArray, List.getElem?_cons_succ, List.getElem?_cons_zero]; rfl) (Or.inl ⟨(by rfl), ?_⟩) ?_
        rotate_left
        · as_aux_lemma => intro wx hSx; (try dsimp only at hSx); go_simp; try with_reducible rfl
        try simp only [Act.put, List.setIfInBounds_toArray, List.set_cons_zero, List.set_cons_succ]
        refine wpT_take (i := 7) (v := ?_) (by as_aux_lemma => rw [HO7.out]; simp only [List.getElem?_toArray, List.getElem?_cons_succ, List.getElem?_cons_zero]; rfl) (Or.inl ⟨(by rfl), ?_⟩) ?_
        rotate_left
        · as_aux_lemma => intro wx hSx; (try dsimp only at hSx); go_simp; try with_reducible rfl
        try simp only [Act.put, List.setIfInBounds_toArray, List.set_cons_zero, List.set_cons_succ]
        refine wpT_call (i := 8) (by as_aux_lemma => rw [HO7.out]; simp only [List.getElem?_toArray, List.getElem?_cons_succ, List.getElem?_cons_zero]; rfl) (by rfl) (fun K' hK => ?_)
        go_simp
        refine (HAD.out _ (Up.refl w5).drew).mono ?_
        rintro e w6 ⟨v6, rfl, hQ6, U6⟩
        obtain ⟨s6, A6, n6, c6, B6, m6, d6, rfl⟩ := hQ6.shape
        have HQ6 := Lib.hid hQ6
        have V6 : Up w5 w6 := Up.trans (Up.refl w5).drew U6
        have kk6 := HE.out _ V6
        clear hQ6
        obtain ⟨⟨z0, z1, z2⟩, _⟩ := kk6
        have kk6 := HE.out _ V6
        have f0 := (HO5.out.up V6).frozen 0
        have f1 := (HO5.out.up V6).frozen 1
        have f2 := (HO5.out.up V6).frozen 2
        go_wp2_with fail
        refine hK.out _ _ kk6 (fun _ => ?_)
        clear hK K'
        try simp only [Act.put, List.setIfInBounds_toArray, List.set_cons_zero, List.set_cons_succ]
        refine wpT_take (i := 9) (v := ?_) (by as_aux_lemma => rw [HO7.out]; simp only [List.getElem?_toArray, List.getElem?_cons_succ, List.getElem?_cons_zero]; rfl) (Or.inl ⟨(by rfl), ?_⟩) ?_
        rotate_left
        · as_aux_lemma => intro wx hSx; (try dsimp only at hSx); go_simp; try with_reducible rfl
        try simp only [Act.put, List.setIfInBounds_toArray, List.set_cons_zero, List.set_cons_succ]
        refine wpT_tail (i := 10) (by as_aux_lemma => rw [HO7.out]; simp only [List.getElem?_toArray, List.getElem?_cons_succ, List.getElem?_cons_zero]; rfl) (by rfl) (fun K' hK => ?_)
        go_simp
        go_wp2_with fail
        refine hK.out _ _ ?_
        clear hK K'
        try simp only [Act.put, List.setIfInBounds_toArray, List.set_cons_zero, List.set_cons_succ]
        refine wpT_end (NoPanic.normal ?_)
        clear HO7 O7
        have HO9 := (HO5.out.up V6).put (o := none) H05.out (q := z) HQ6.out
        rw [Nat.zero_mul] at HO9
        have U9 := up_put (hU.trans (V5.trans V6)) (by have := hU.size; have := V5.size; have := U3.size; have := U4.size; omega : w.heap.size ≤ g5) 0 (.bool s6) (.slice A6 n6 c6) (.slice B6 m6 d6)
        obtain ⟨w9, hw9⟩ : ∃ x, x = put3 w6 g5 0 (.bool s6) (.slice A6 n6 c6) (.slice B6 m6 d6) := ⟨_, rfl⟩
        have hs9 : w9.heap.size = w6.heap.size := by rw [hw9]; simp [put3]
        have bk9 : Blk w9 gk 3 #[.int .i64 (k : Int)] := by rw [hw9]; exact Blk.put3' (bk5.up V6) nk 0 _ _ _
        rw [← hw9] at HO9 U9
        rw [put3_eq]
        try simp only [Nat.zero_add]
        rw [← hw9]
        have HO9 := Lib.hid HO9
        have kc9 := int_cell bk9
        have lk9 := bk9.lt
        clear hw9 hs9
        go_wp2_with fail
        have U10 : Up w9 (w9.alloc (Obj.cells #[.int .i64 ((k : Int) - 1)] 3)) := Below.alloc (Up.refl _) (Nat.le_refl _) _
        have HB10 := Lib.hid (Blk.new w9 3 #[.int .i64 ((k : Int) - 1)])
        have HH10 := Lib.hid (show RX none (w9.alloc (Obj.cells #[.int .i64 ((k : Int) - 1)] 3)) (some ⟨g5, 0, none⟩) (l5.set 0 z) ∧ (l5.set 0 z).length + k = N ∧ (∀ i, (l5.set 0 z).getD i 0 = pwR ps (l5.set 0 z).length i) ∧ (some (Addr.mk g5 0 none) = none → l5.length = 0) from
          ⟨HO9.out.rx.up U10, by rw [List.length_set, HLA.out]; have := HH.out.2.1; omega, fun i => by rw [HST.out, List.length_set, HLA.out], fun h => by cases h⟩)
        have HLS := Lib.hid (show (l5.set 0 z).length = l5.length by simp)
        go_roundw
        case rel => exact ⟨k, l5.set 0 z, some ⟨g5, 0, none⟩, l5.length, w9.heap.size, by omega, by rw [HLS.out, HLA.out], rfl, HH10, HB10, U9.size, U9.trans U10⟩
        case measure =>
          show powM (.pointer (some ⟨w9.heap.size, 0, none⟩)) _ < powM (.pointer (some ⟨gk, 0, none⟩)) wr
          rw [powM_of HB10.out, HM0.out]
          omega
  · have HP := Lib.hid (HNO h33)
    have t0 : decide (33 < ps.length) = true := by simp; omega
    have t0i : decide ((33 : Int) < (ps.length : Int)) = true := by simp; omega
    clear h33 h hB
    go_enter Try.func18, Try.ntmps18
    go_wp2_with fail
    go_ret2
    exact ⟨none, 0, by rw [HP.out.1, HP.out.2]; rfl, by rw [HP.out.1]; exact Nat.le_refl _, by omega, by rw [HP.out.1]; exact RX.nil_, Up.refl _⟩
end Go.Proofs.Ytkngegcfdabpoaa
