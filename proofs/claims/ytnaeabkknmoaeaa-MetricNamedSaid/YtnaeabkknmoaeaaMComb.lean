/-
  The contract of metric.Combine.
-/
import Derived.Test.YtnaeabkknmoaeaaMCombLaw
namespace Go.Proofs.Ytnaeabkknmoaeaa
open Go.RowKit

theorem below_up' {w a b : World} (h : Up w a) (k : Below w.heap.size a b) : Up w b := Below.trans h k
theorem duo {w : World} {g : Nat} {t : TypeId} {a b : Value} (h : Blk w g t #[a, b]) : w.cell? ⟨g, 0, none⟩ = some a ∧ w.cell? ⟨g, 1, none⟩ = some b := by
  have c0 := h.cell 0
  have c1 := h.cell 1
  simp at c0 c1
  exact ⟨c0, c1⟩
theorem duo_set {w : World} {g : Nat} {t : TypeId} {a b : Value} (h : Blk w g t #[a, b]) (x y : Value) : Blk ((w.setCell ⟨g, 0, none⟩ x).setCell ⟨g, 1, none⟩ y) g t #[x, y] := (h.set_ 0 x).set_ 1 y
theorem comb_si {w : World} {g : Nat} {A : Option Addr} {l : List Int} {a b : Value} (h : SI w w.heap.size .i64 A l) (r : Blk w g 28 #[a, b]) {x y : Value} (ha : ∀ k z, a ≠ .int k z) (hb : ∀ k z, b ≠ .int k z) :
    SI ((w.setCell ⟨g, 0, none⟩ x).setCell ⟨g, 1, none⟩ y) ((w.setCell ⟨g, 0, none⟩ x).setCell ⟨g, 1, none⟩ y).heap.size .i64 A l := fun h0 => by
  obtain ⟨ad, e, hl, hc⟩ := h h0
  refine ⟨ad, e, by simpa using hl, fun j hj => ?_⟩
  have h1 := hc j hj
  have d0 := r.cell 0
  have d1 := r.cell 1
  simp at d0 d1
  have n0 : (⟨g, 0, none⟩ : Addr) ≠ ad.add j := by
    intro e2
    rw [← e2, d0] at h1
    exact ha _ _ (by injection h1)
  have n1 : (⟨g, 1, none⟩ : Addr) ≠ ad.add j := by
    intro e2
    rw [← e2, d1] at h1
    exact hb _ _ (by injection h1)
  rw [World.cell?_setCell_other _ _ _ _ n1, World.cell?_setCell_other _ _ _ _ n0]
  exact h1
theorem up_duo {w w1 : World} {g : Nat} (h : Up w w1) (hg : w.heap.size ≤ g) (x y : Value) : Up w ((w1.setCell ⟨g, 0, none⟩ x).setCell ⟨g, 1, none⟩ y) := by
  refine Below.setCell (Below.setCell h ?_ _) ?_ _
  all_goals (simp; omega)

set_option maxRecDepth 100000 in
set_option maxHeartbeats 12800000 in
theorem combine_any (A : Option Addr) (cap : Nat) (ms : List MS) (W : Option Addr) (wcap : Nat) (ws : List Int) (w : World) (hr : SM w w.heap.size A ms) (hok : ∀ m ∈ ms, m.ok w w.heap.size)
    (hml : ∀ m ∈ ms, m.b.length ≤ 9223372036854775807 ∧ m.f.length ≤ 9223372036854775807) (hn : ms.length ≤ 6) (hw : SI w w.heap.size .i64 W ws) (hwn : ws.length ≤ 8) :
    Calls Try.prog 22 #[.slice A ms.length cap, .slice W ws.length wcap] w (RetC w (combV (ms.map fun m => (m.b, m.f)) ws)) := by
  have HR := Lib.hid hr
  have HOK := Lib.hid hok
  have HML := Lib.hid hml
  have HW := Lib.hid hw
  obtain ⟨n, hnn⟩ : ∃ n, n = ms.length := ⟨_, rfl⟩
  obtain ⟨m', hmm⟩ : ∃ n, n = ws.length := ⟨_, rfl⟩
  have HN := Lib.hid hnn
  have HM := Lib.hid hmm
  rw [← hnn] at hn ⊢
  rw [← hmm] at hwn ⊢
  clear hr hok hml hw hnn hmm
  go_enter Try.func22, Try.ntmps22
  go_wp2_with fail
  obtain ⟨w1, hw1⟩ : ∃ w1, w1 = w.alloc (Obj.cells #[.slice none 0 0, .slice none 0 0] 28) := ⟨_, rfl⟩
  have U1 : Up w w1 := by rw [hw1]; exact (Below.refl _ _).alloc (Nat.le_refl _) _
  have r1 : Blk w1 w.heap.size 28 #[.slice none 0 0, .slice none 0 0] := by rw [hw1]; exact Blk.new' _ _ _ rfl
  rw [← hw1]
  clear hw1
  go_loopw [16] (fun iv wr => ∃ k : Nat, k ≤ n ∧ iv = .int .i64 k ∧ Hid ((∀ m ∈ ms.take k, validB m.b m.f = true) ∧ Blk wr w.heap.size 28 #[.slice none 0 0, .slice none 0 0]) ∧ Up w wr) (fun iv _ => n - (intOf iv).toNat)
  case atStart => exact ⟨0, Nat.zero_le _, rfl, Lib.hid ⟨by simp, r1⟩, U1⟩
  case round =>
    obtain ⟨k, hk, rfl, HA, hU⟩ := hrel
    by_cases hlt : k < n
    · have hkm : k < ms.length := by rw [← HN.out]; exact hlt
      obtain ⟨ad, rfl, had, c0, c1⟩ := (HR.out.below hU).at_ hkm
      have hmem : ms[k] ∈ ms := List.getElem_mem hkm
      obtain ⟨m, hm⟩ : ∃ m, m = ms[k] := ⟨_, rfl⟩
      have HMK := Lib.hid hm
      rw [← hm] at c0 c1 hmem
      have HME := Lib.hid hmem
      unfold MS.va at c0
      unfold MS.vb at c1
      have hlen := HML.out m hmem
      have hmo := HOK.out m hmem
      have HVa := Lib.hid (fun wx (u : Up w wx) => valid_any m.A m.c m.B m.d m.b m.f wx (hmo.1.up u) (hmo.2.up u) hlen.1 hlen.2)
      obtain ⟨t, ht⟩ : ∃ t, t = validB m.b m.f := ⟨_, rfl⟩
      have HTT := Lib.hid ht
      rw [← ht] at HVa
      clear hm hmem hmo hlen ht
      go_wp2_with fail
      obtain ⟨w2, hw2⟩ : ∃ w2, w2 = wr.alloc (Obj.cells #[.slice m.A m.b.length m.c, .slice m.B m.f.length m.d] 28) := ⟨_, rfl⟩
      have U2 : Up wr w2 := by rw [hw2]; exact (Below.refl _ _).alloc (Nat.le_refl _) _
      rw [← hw2]
      clear hw2
      refine (HVa.out w2 (hU.trans U2)).mono ?_
      rintro e w3 ⟨rfl, U3⟩
      have UU := (hU.trans U2).trans U3
      have rr := (HA.out.2.up U2).up U3
      clear c0 c1 U2 U3
      cases t with
      | true =>
        go_wp2_with fail
        go_roundw
        case rel =>
          refine ⟨k + 1, by omega, by go_num, Lib.hid ⟨fun x hx => ?_, rr⟩, UU⟩
          rw [List.take_succ_eq_append_getElem hkm, List.mem_append] at hx
          rcases hx with hx | hx
          · exact HA.out.1 x hx
          · simp at hx
            rw [hx, ← HMK.out]; exact HTT.out.symm
        case measure => simp [intOf]; omega
      | false =>
        have HV := Lib.hid (combV_bad (ws := ws) (ms := ms.map fun m => (m.b, m.f)) (m := (m.b, m.f)) (List.mem_map.2 ⟨m, HME.out, rfl⟩) HTT.out.symm)
        obtain ⟨d0, d1⟩ := duo rr
        have f0 := rr.frozen 0
        have f1 := rr.frozen 1
        go_wp2_with fail
        obtain ⟨c0, c1⟩ := duo (duo_set rr (.slice none 0 0) (.slice none 0 0))
        refine bodyPost_ret (v := .tuple #[.agg #[.slice none 0 0, .slice none 0 0], .int .i64 10]) ?_ rfl (by rw [HV.out]; exact ⟨none, 0, none, 0, rfl, SI.nil_, SI.nil_, up_duo UU (Nat.le_refl _) _ _⟩)
        simp [results, Try.results22, go_sem, c0, c1]
    · have hkn : k = n := by omega
      subst hkn
      have hall : ∀ m ∈ ms.map (fun m => (m.b, m.f)), validB m.1 m.2 = true := by
        intro m hm
        obtain ⟨x, hx, rfl⟩ := List.mem_map.1 hm
        exact HA.out.1 x (by rw [HN.out, List.take_length]; exact hx)
      have HALL := Lib.hid hall
      have rr := HA.out.2
      have UU := hU
      clear hall HA
      obtain ⟨d0, d1⟩ := duo rr
      have f0 := rr.frozen 0
      have f1 := rr.frozen 1
      by_cases hl : k = m'
      case neg =>
        have HV := Lib.hid (combV_len (ws := ws) HALL.out (by rw [List.length_map, ← HN.out, ← HM.out]; exact hl))
        have t1 : ((k : Int) != (m' : Int)) = true := by simp; omega
        have t2 : (k != m') = true := by simp; omega
        clear hl
        go_wp2_with fail
        obtain ⟨c0, c1⟩ := duo (duo_set rr (.slice none 0 0) (.slice none 0 0))
        refine bodyPost_ret (v := .tuple #[.agg #[.slice none 0 0, .slice none 0 0], .int .i64 8]) ?_ rfl (by rw [HV.out]; exact ⟨none, 0, none, 0, rfl, SI.nil_, SI.nil_, up_duo UU (Nat.le_refl _) _ _⟩)
        simp [results, Try.results22, go_sem, c0, c1]
      subst hl
      obtain ⟨wo, hwo⟩ : ∃ wo : World, wo = wr := ⟨_, rfl⟩
      subst hwo
      go_wp2_with fail
      go_loop [33] (fun iv => ∃ j : Nat, j ≤ k ∧ iv = .int .i64 j ∧ Hid (∀ x ∈ ws.take j, inB x = true)) (fun iv => k - (intOf iv).toNat)
      case atStart => exact ⟨0, Nat.zero_le _, rfl, Lib.hid (by simp)⟩
      case round =>
        obtain ⟨j, hj, rfl, HI⟩ := hrel
        by_cases hjk : j < k
        · have hjw : j < ws.length := by rw [← HM.out]; exact hjk
          obtain ⟨wd, rfl, hwd, hcell⟩ := (HW.out.below UU).at_ hjw
          have hmem : ws[j] ∈ ws := List.getElem_mem hjw
          obtain ⟨z, hz⟩ : ∃ z, z = ws[j] := ⟨_, rfl⟩
          have HZ := Lib.hid hz
          rw [← hz] at hcell hmem
          have HME := Lib.hid hmem
          clear hz hmem
          cases hzb : inB z with
          | true =>
            have HB := Lib.hid hzb
            obtain ⟨hz1, hz2⟩ := inB_of hzb
            have s1 : decide (z < -1000) = false := by simp; omega
            have s2 : decide (1000 < z) = false := by simp; omega
            have s3 : decide (-1000 ≤ z) = true := by simp; omega
            have s4 : decide (z ≤ 1000) = true := by simp; omega
            clear hzb
            go_wp2
            go_round
            case rel =>
              refine ⟨j + 1, by omega, by go_num, Lib.hid fun x hx => ?_⟩
              rw [List.take_succ_eq_append_getElem hjw, List.mem_append] at hx
              rcases hx with hx | hx
              · exact HI.out x hx
              · simp at hx
                rw [hx, ← HZ.out]; exact HB.out
            case measure => simp [intOf]; omega
          | false =>
            have HV := Lib.hid (combV_w (ws := ws) HALL.out HME.out hzb)
            rcases (show z < -1000 ∨ (-1000 ≤ z ∧ 1000 < z) by simp [inB] at hzb; omega) with hz1 | ⟨hz1, hz2⟩
            case' inl =>
              have s1 : decide (z < -1000) = true := by simp; omega
              have s3 : decide (-1000 ≤ z) = false := by simp; omega
              clear hzb hz1
              go_wp2
            case' inr =>
              have s1 : decide (z < -1000) = false := by simp; omega
              have s2 : decide (1000 < z) = true := by simp; omega
              have s3 : decide (-1000 ≤ z) = true := by simp; omega
              have s4 : decide (z ≤ 1000) = false := by simp; omega
              clear hzb hz1 hz2
              go_wp2
            all_goals
              obtain ⟨c0, c1⟩ := duo (duo_set rr (.slice none 0 0) (.slice none 0 0))
              refine bodyPost_ret (v := .tuple #[.agg #[.slice none 0 0, .slice none 0 0], .int .i64 8]) ?_ rfl (by rw [HV.out]; exact ⟨none, 0, none, 0, rfl, SI.nil_, SI.nil_, up_duo UU (Nat.le_refl _) _ _⟩)
              simp [results, Try.results22, go_sem, c0, c1]
        · have hjk' : j = k := by omega
          subst hjk'
          have HWB := Lib.hid (show ∀ x ∈ ws, inB x = true from fun x hx => HI.out x (by rw [HM.out, List.take_length]; exact hx))
          clear HI d0 d1 f0 f1
          go_wp2_with fail
          refine (zero_any wo).mono ?_
          rintro e w4 ⟨gb, gf, rfl, b4, h4, hne, hgb, hgf, U4⟩
          have r4 := rr.up U4
          have V4 := UU.trans U4
          have hgb2 : w.heap.size < gb := Nat.lt_of_lt_of_le rr.lt hgb
          have hgf2 : w.heap.size < gf := Nat.lt_of_lt_of_le rr.lt hgf
          have z4 := b4.lt
          have y4 := h4.lt
          go_wp2_with fail
          obtain ⟨w5, hw5⟩ : ∃ w5, w5 = w4.alloc (Obj.cells #[.slice (some ⟨gb, 0, none⟩) 26 26, .slice (some ⟨gf, 0, none⟩) 26 26] 28) := ⟨_, rfl⟩
          have U5 : Up w4 w5 := by rw [hw5]; exact (Below.refl _ _).alloc (Nat.le_refl _) _
          have x5 : Blk w5 w4.heap.size 28 #[.slice (some ⟨gb, 0, none⟩) 26 26, .slice (some ⟨gf, 0, none⟩) 26 26] := by rw [hw5]; exact Blk.new' _ _ _ rfl
          obtain ⟨g10, hg10⟩ : ∃ g, g = w4.heap.size := ⟨_, rfl⟩
          rw [← hg10] at x5 z4 y4 ⊢
          rw [← hw5]
          obtain ⟨bs, hbs⟩ : ∃ bs, bs = (ms.map fun m => (m.b, m.f)).map (·.1) := ⟨_, rfl⟩
          obtain ⟨fs, hfs⟩ : ∃ bs, bs = (ms.map fun m => (m.b, m.f)).map (·.2) := ⟨_, rfl⟩
          have HBS := Lib.hid hbs
          have HFS := Lib.hid hfs
          have HB5 := Lib.hid (And.intro (show BI w5 gb (wlist ws bs 0) by rw [wlist_zero]; exact b4.up U5) (And.intro (show BI w5 gf (wlist ws fs 0) by rw [wlist_zero]; exact h4.up U5) (And.intro x5 (r4.up U5))))
          have V5 := V4.trans U5
          have hg5 : w.heap.size < g10 := by omega
          clear hw5 x5 hg10 hbs hfs b4 h4 r4 U4 U5 V4 rr
          go_loopw [45] (fun iv wr => ∃ i : Nat, i ≤ j ∧ iv = .int .i64 i ∧ Hid (BI wr gb (wlist ws bs i) ∧ BI wr gf (wlist ws fs i) ∧ Blk wr g10 28 #[.slice (some ⟨gb, 0, none⟩) 26 26, .slice (some ⟨gf, 0, none⟩) 26 26] ∧ Blk wr w.heap.size 28 #[.slice none 0 0, .slice none 0 0]) ∧ Up w wr) (fun iv _ => j - (intOf iv).toNat)
          case atStart => exact ⟨0, Nat.zero_le _, rfl, HB5, V5⟩
          case round =>
            obtain ⟨i, hi, rfl, HB, hUi⟩ := hrel
            by_cases hij : i < j
            case pos =>
              have HBI := HB.out
              have him : i < ms.length := by rw [← HN.out]; exact hij
              have hiw : i < ws.length := by rw [← HM.out]; exact hij
              obtain ⟨ad, rfl, had, c0, c1⟩ := (HR.out.below hUi).at_ him
              obtain ⟨wd, rfl, hwd, hwc⟩ := (HW.out.below hUi).at_ hiw
              have hmem : ms[i] ∈ ms := List.getElem_mem him
              have hval := HALL.out (ms[i].b, ms[i].f) (List.mem_map.2 ⟨ms[i], hmem, rfl⟩)
              obtain ⟨hv1, hv2⟩ := validB_bnd hval
              have hlb := bndB_len hv1
              have hlf := bndB_len hv2
              have hok := HOK.out ms[i] hmem
              have hbi : bs.getD i [] = ms[i].b := by rw [HBS.out]; simp [him]
              have hfi : fs.getD i [] = ms[i].f := by rw [HFS.out]; simp [him]
              have hwi : ws.getD i 0 = ws[i] := by simp [hiw]
              obtain ⟨y, hy⟩ : ∃ y, y = ws[i] := ⟨_, rfl⟩
              rw [← hy] at hwc hwi
              obtain ⟨m, hm⟩ : ∃ m, m = ms[i] := ⟨_, rfl⟩
              rw [← hm] at c0 c1 hmem hbi hfi hok
              rw [← hm] at hlb hlf
              obtain ⟨bA, bl, bc', fA, fl, fc⟩ := m
              unfold MS.va at c0
              unfold MS.vb at c1
              simp only at c0 c1 hbi hfi hlb hlf
              rw [hlb] at c0
              rw [hlf] at c1
              obtain ⟨bd, rfl, hbd, hq1⟩ := hok.1.at_ (k := 0) (by simp only; omega)
              obtain ⟨fd, rfl, hfd, hq2⟩ := hok.2.at_ (k := 0) (by simp only; omega)
              have HSB : Hid (SI w w.heap.size .i64 (some bd) bl) := Lib.hid hok.1
              have HSF : Hid (SI w w.heap.size .i64 (some fd) fl) := Lib.hid hok.2
              have HBI1 := Lib.hid hbi
              have HFI1 := Lib.hid hfi
              have HWI1 := Lib.hid hwi
              have HLB := Lib.hid hlb
              have HLF := Lib.hid hlf
              clear hq1 hq2
              clear hy hm hmem hval hv1 hv2 hok hbi hfi hwi hlb hlf
              obtain ⟨e0, e1⟩ := duo HBI.2.2.1
              go_wp2_with fail
              obtain ⟨w6, hw6⟩ : ∃ w6, w6 = wr.alloc (Obj.cells #[.slice (some bd) 26 bc', .slice (some fd) 26 fc] 28) := ⟨_, rfl⟩
              have U6 : Up wr w6 := by rw [hw6]; exact (Below.refl _ _).alloc (Nat.le_refl _) _
              have x6 : Blk w6 wr.heap.size 28 #[.slice (some bd) 26 bc', .slice (some fd) 26 fc] := by rw [hw6]; exact Blk.new' _ _ _ rfl
              obtain ⟨g12, hg12⟩ : ∃ g, g = wr.heap.size := ⟨_, rfl⟩
              have hz1 := HBI.1.lt
              have hz2 := HBI.2.1.lt
              have hz3 := HBI.2.2.1.lt
              have hz4 := HBI.2.2.2.lt
              rw [← hg12] at x6 hz1 hz2 hz3 hz4 ⊢
              rw [← hw6]
              have HB6 := Lib.hid (show BI w6 gb (mix ws bs i 0) ∧ BI w6 gf (mix ws fs i 0) ∧ Blk w6 g10 28 #[.slice (some ⟨gb, 0, none⟩) 26 26, .slice (some ⟨gf, 0, none⟩) 26 26] ∧ Blk w6 g12 28 #[.slice (some bd) 26 bc', .slice (some fd) 26 fc] ∧ Blk w6 w.heap.size 28 #[.slice none 0 0, .slice none 0 0] from
                ⟨by rw [mix_zero]; exact HBI.1.up U6, by rw [mix_zero]; exact HBI.2.1.up U6, HBI.2.2.1.up U6, x6, HBI.2.2.2.up U6⟩)
              have V6 := hUi.trans U6
              clear hw6 hg12 x6 U6 HBI HB c0 c1 e0 e1 hwc
              go_loopw [50] (fun sv wx => ∃ s : Nat, s ≤ 26 ∧ sv = .int .i64 s ∧ Hid (BI wx gb (mix ws bs i s) ∧ BI wx gf (mix ws fs i s) ∧ Blk wx g10 28 #[.slice (some ⟨gb, 0, none⟩) 26 26, .slice (some ⟨gf, 0, none⟩) 26 26] ∧ Blk wx g12 28 #[.slice (some bd) 26 bc', .slice (some fd) 26 fc] ∧ Blk wx w.heap.size 28 #[.slice none 0 0, .slice none 0 0]) ∧ Up w wx) (fun sv _ => 26 - (intOf sv).toNat)
              case atStart => exact ⟨0, by omega, rfl, HB6, V6⟩
              case round =>
                obtain ⟨s, hs, rfl, HB, hUs⟩ := hrel
                by_cases hs26 : s < 26
                · obtain ⟨b1, b2, b3, b4, b5⟩ := HB.out
                  obtain ⟨wd', e, _, hwc⟩ := (HW.out.below hUs).at_ hiw
                  cases e
                  obtain ⟨bd', e, _, hbc⟩ := (HSB.out.below hUs).at_ (k := s) (by rw [HLB.out]; exact hs26)
                  cases e
                  obtain ⟨fd', e, _, hfc⟩ := (HSF.out.below hUs).at_ (k := s) (by rw [HLF.out]; exact hs26)
                  cases e
                  have a0 := b1.cell (k := s) (by rw [mix_len]; exact hs26)
                  have a1 := b2.cell (k := s) (by rw [mix_len]; exact hs26)
                  rw [mix_at ws bs i s hs26] at a0
                  rw [mix_at ws fs i s hs26] at a1
                  have hw1 : ws[i]'hiw = y := by rw [← HWI1.out]; simp [hiw]
                  rw [hw1] at hwc
                  have hb1 : bl[s]'(by rw [HLB.out]; exact hs26) = (bs.getD i []).getD s 0 := by rw [HBI1.out]; simp [HLB.out, hs26]
                  have hf1 : fl[s]'(by rw [HLF.out]; exact hs26) = (fs.getD i []).getD s 0 := by rw [HFI1.out]; simp [HLF.out, hs26]
                  rw [hb1] at hbc
                  rw [hf1] at hfc
                  have hBb : ∀ b ∈ bs, bndB b = true := by
                    rw [HBS.out]
                    intro b hb
                    obtain ⟨p, hp, rfl⟩ := List.mem_map.1 hb
                    exact (validB_bnd (HALL.out p hp)).1
                  have hFb : ∀ b ∈ fs, bndB b = true := by
                    rw [HFS.out]
                    intro b hb
                    obtain ⟨p, hp, rfl⟩ := List.mem_map.1 hb
                    exact (validB_bnd (HALL.out p hp)).2
                  have k1 := wsum_bd ws bs s (inB_at HWB.out) (lists_at hBb s) i
                  have k2 := wsum_bd ws fs s (inB_at HWB.out) (lists_at hFb s) i
                  have k3 := inB_at HWB.out i
                  rw [HWI1.out] at k3
                  have k4 := lists_at hBb s i
                  have k5 := lists_at hFb s i
                  have q0 := mix_set ws bs i s hs26
                  have q1 := mix_set ws fs i s hs26
                  rw [HWI1.out] at q0 q1
                  obtain ⟨o0, ho0⟩ : ∃ o, o = wsum ws bs s i := ⟨_, rfl⟩
                  obtain ⟨o1, ho1⟩ : ∃ o, o = wsum ws fs s i := ⟨_, rfl⟩
                  have HO1 := Lib.hid ho1
                  obtain ⟨bz, hbz⟩ : ∃ o, o = (bs.getD i []).getD s 0 := ⟨_, rfl⟩
                  obtain ⟨fz, hfz⟩ : ∃ o, o = (fs.getD i []).getD s 0 := ⟨_, rfl⟩
                  rw [← ho0] at a0 k1 q0
                  rw [← ho1] at a1 k2 q1
                  rw [← hbz] at hbc k4 q0
                  rw [← hfz] at hfc k5 q1
                  have p1 := prod_bd k3.1 k3.2 k4.1 k4.2
                  have p2 := prod_bd k3.1 k3.2 k5.1 k5.2
                  have e1 : IntKind.i64.wrap (y * bz) = y * bz := IntWalk.i64_in _ (by omega)
                  have e2 : IntKind.i64.wrap (o0 + y * bz) = o0 + y * bz := IntWalk.i64_in _ (by omega)
                  have e3 : IntKind.i64.wrap (y * fz) = y * fz := IntWalk.i64_in _ (by omega)
                  have e4 : IntKind.i64.wrap (o1 + y * fz) = o1 + y * fz := IntWalk.i64_in _ (by omega)
                  have Q0 := Lib.hid q0
                  have Q1 := Lib.hid q1
                  clear k1 k2 k3 k4 k5 p1 p2 hBb hFb ho0 ho1 hbz hfz hw1 hb1 hf1 q0 q1 HB
                  obtain ⟨x0, x1⟩ := duo b3
                  obtain ⟨y0, y1⟩ := duo b4
                  have f0 := Blk.frozen b1 s
                  have s0 : (0 : Int) ≤ (s : Int) := by omega
                  have s1 : (s : Int) < 26 := by omega
                  have i0 : (0 : Int) ≤ (i : Int) := by omega
                  have i1 : (i : Int) < (j : Int) := by omega
                  have hS0 := And.intro x0 (And.intro a0 (And.intro hwc (And.intro y0 hbc)))
                  go_wp2_with fail
                  refine wp_region_noPanic ?_
                  refine wp_region_till (S := (fun wx => wx.cell? ⟨g10, 0, none⟩ = some (.slice (some ⟨gb, 0, none⟩) 26 26) ∧ wx.cell? ⟨gb, s, none⟩ = some (.int .i64 o0) ∧ wx.cell? (wd.add i) = some (.int .i64 y) ∧ wx.cell? ⟨g12, 0, none⟩ = some (.slice (some bd) 26 bc') ∧ wx.cell? (bd.add s) = some (.int .i64 bz))) 17 [(0, 0), (1, 0), (2, 0), (3, 0), (4, 0), (5, 0), (6, 0), (7, 0), (8, 0), (9, 0), (10, 0), (11, 0), (12, 0), (13, 0), (14, 0), (15, 0), (16, 0)] [17] (by kernel_rfl) (by as_aux_lemma => kernel_rfl) (by as_aux_lemma => kernel_rfl) (by as_aux_lemma => kernel_rfl) (fun _ _ _ _ _ h => h) hS0 ?_
                  intro O1 HO1
                  refine wpT_take (i := 0) (v := ?_) (by as_aux_lemma => rw [HO1.out]; simp only [List.getElem?_toArray, List.getElem?_cons_zero]; rfl) (Or.inl ⟨(by rfl), ?_⟩) ?_
                  rotate_left
                  · as_aux_lemma => intro wx hSx; (try dsimp only at hSx); go_simp; try with_reducible rfl
                  try simp only [Act.put, List.setIfInBounds_toArray, List.set_cons_zero, List.set_cons_succ]
                  refine wpT_take (i := 1) (v := ?_) (by as_aux_lemma => rw [HO1.out]; simp only [List.getElem?_toArray, List.getElem?_cons_succ, List.getElem?_cons_zero]; rfl) (Or.inl ⟨(by rfl), ?_⟩) ?_
                  rotate_left
                  · as_aux_lemma => intro wx hSx; (try dsimp only at hSx); go_simp; try with_reducible rfl
                  try simp only [Act.put, List.setIfInBounds_toArray, List.set_cons_zero, List.set_cons_succ]
                  refine wpT_take (i := 2) (v := ?_) (by as_aux_lemma => rw [HO1.out]; simp only [List.getElem?_toArray, List.getElem?_cons_succ, List.getElem?_cons_zero]; rfl) (Or.inl ⟨(by rfl), ?_⟩) ?_
                  rotate_left
                  · as_aux_lemma => intro wx hSx; (try dsimp only at hSx); go_simp; try with_reducible rfl
                  try simp only [Act.put, List.setIfInBounds_toArray, List.set_cons_zero, List.set_cons_succ]
                  refine wpT_take (i := 3) (v := ?_) (by as_aux_lemma => rw [HO1.out]; simp only [List.getElem?_toArray, List.getElem?_cons_succ, List.getElem?_cons_zero]; rfl) (Or.inl ⟨(by rfl), ?_⟩) ?_
                  rotate_left
                  · as_aux_lemma => intro wx hSx; (try dsimp only at hSx); go_simp; try with_reducible rfl
                  try simp only [Act.put, List.setIfInBounds_toArray, List.set_cons_zero, List.set_cons_succ]
                  refine wpT_take (i := 4) (v := ?_) (by as_aux_lemma => rw [HO1.out]; simp only [List.getElem?_toArray, List.getElem?_cons_succ, List.getElem?_cons_zero]; rfl) (Or.inl ⟨(by rfl), ?_⟩) ?_
                  rotate_left
                  · as_aux_lemma => intro wx hSx; (try dsimp only at hSx); go_simp; try with_reducible rfl
                  try simp only [Act.put, List.setIfInBounds_toArray, List.set_cons_zero, List.set_cons_succ]
                  refine wpT_take (i := 5) (v := ?_) (by as_aux_lemma => rw [HO1.out]; simp only [List.getElem?_toArray, List.getElem?_cons_succ, List.getElem?_cons_zero]; rfl) (Or.inl ⟨(by rfl), ?_⟩) ?_
                  rotate_left
                  · as_aux_lemma => intro wx hSx; (try dsimp only at hSx); go_simp; try with_reducible rfl
                  try simp only [Act.put, List.setIfInBounds_toArray, List.set_cons_zero, List.set_cons_succ]
                  refine wpT_take (i := 6) (v := ?_) (by as_aux_lemma => rw [HO1.out]; simp only [List.getElem?_toArray, List.getElem?_cons_succ, List.getElem?_cons_zero]; rfl) (Or.inl ⟨(by rfl), ?_⟩) ?_
                  rotate_left
                  · as_aux_lemma => intro wx hSx; (try dsimp only at hSx); go_simp; try with_reducible rfl
                  try simp only [Act.put, List.setIfInBounds_toArray, List.set_cons_zero, List.set_cons_succ]
                  refine wpT_take (i := 7) (v := ?_) (by as_aux_lemma => rw [HO1.out]; simp only [List.getElem?_toArray, List.getElem?_cons_succ, List.getElem?_cons_zero]; rfl) (Or.inl ⟨(by rfl), ?_⟩) ?_
                  rotate_left
                  · as_aux_lemma => intro wx hSx; (try dsimp only at hSx); go_simp; try with_reducible rfl
                  try simp only [Act.put, List.setIfInBounds_toArray, List.set_cons_zero, List.set_cons_succ]
                  refine wpT_take (i := 8) (v := ?_) (by as_aux_lemma => rw [HO1.out]; simp only [List.getElem?_toArray, List.getElem?_cons_succ, List.getElem?_cons_zero]; rfl) (Or.inl ⟨(by rfl), ?_⟩) ?_
                  rotate_left
                  · as_aux_lemma => intro wx hSx; (try dsimp only at hSx); go_simp; try with_reducible rfl
                  try simp only [Act.put, List.setIfInBounds_toArray, List.set_cons_zero, List.set_cons_succ]
                  refine wpT_take (i := 9) (v := ?_) (by as_aux_lemma => rw [HO1.out]; simp only [List.getElem?_toArray, List.getElem?_cons_succ, List.getElem?_cons_zero]; rfl) (Or.inl ⟨(by rfl), ?_⟩) ?_
                  rotate_left
                  · as_aux_lemma => intro wx hSx; (try dsimp only at hSx); go_simp; try with_reducible rfl
                  try simp only [Act.put, List.setIfInBounds_toArray, List.set_cons_zero, List.set_cons_succ]
                  refine wpT_take (i := 10) (v := ?_) (by as_aux_lemma => rw [HO1.out]; simp only [List.getElem?_toArray, List.getElem?_cons_succ, List.getElem?_cons_zero]; rfl) (Or.inl ⟨(by rfl), ?_⟩) ?_
                  rotate_left
                  · as_aux_lemma => intro wx hSx; (try dsimp only at hSx); go_simp; try with_reducible rfl
                  try simp only [Act.put, List.setIfInBounds_toArray, List.set_cons_zero, List.set_cons_succ]
                  refine wpT_take (i := 11) (v := ?_) (by as_aux_lemma => rw [HO1.out]; simp only [List.getElem?_toArray, List.getElem?_cons_succ, List.getElem?_cons_zero]; rfl) (Or.inl ⟨(by rfl), ?_⟩) ?_
                  rotate_left
                  · as_aux_lemma => intro wx hSx; (try dsimp only at hSx); go_simp; try with_reducible rfl
                  try simp only [Act.put, List.setIfInBounds_toArray, List.set_cons_zero, List.set_cons_succ]
                  refine wpT_take (i := 12) (v := ?_) (by as_aux_lemma => rw [HO1.out]; simp only [List.getElem?_toArray, List.getElem?_cons_succ, List.getElem?_cons_zero]; rfl) (Or.inl ⟨(by rfl), ?_⟩) ?_
                  rotate_left
                  · as_aux_lemma => intro wx hSx; (try dsimp only at hSx); go_simp; try with_reducible rfl
                  try simp only [Act.put, List.setIfInBounds_toArray, List.set_cons_zero, List.set_cons_succ]
                  refine wpT_take (i := 13) (v := ?_) (by as_aux_lemma => rw [HO1.out]; simp only [List.getElem?_toArray, List.getElem?_cons_succ, List.getElem?_cons_zero]; rfl) (Or.inl ⟨(by rfl), ?_⟩) ?_
                  rotate_left
                  · as_aux_lemma => intro wx hSx; (try dsimp only at hSx); go_simp; try with_reducible rfl
                  try simp only [Act.put, List.setIfInBounds_toArray, List.set_cons_zero, List.set_cons_succ]
                  refine wpT_take (i := 14) (v := ?_) (by as_aux_lemma => rw [HO1.out]; simp only [List.getElem?_toArray, List.getElem?_cons_succ, List.getElem?_cons_zero]; rfl) (Or.inl ⟨(by rfl), ?_⟩) ?_
                  rotate_left
                  · as_aux_lemma => intro wx hSx; (try dsimp only at hSx); go_simp; try with_reducible rfl
                  try simp only [Act.put, List.setIfInBounds_toArray, List.set_cons_zero, List.set_cons_succ]
                  refine wpT_take (i := 15) (v := ?_) (by as_aux_lemma => rw [HO1.out]; simp only [List.getElem?_toArray, List.getElem?_cons_succ, List.getElem?_cons_zero]; rfl) (Or.inl ⟨(by rfl), ?_⟩) ?_
                  rotate_left
                  · as_aux_lemma => intro wx hSx; (try dsimp only at hSx); go_simp; try with_reducible rfl
                  try simp only [Act.put, List.setIfInBounds_toArray, List.set_cons_zero, List.set_cons_succ]
                  refine wpT_take (i := 16) (v := ?_) (by as_aux_lemma => rw [HO1.out]; simp only [List.getElem?_toArray, List.getElem?_cons_succ, List.getElem?_cons_zero]; rfl) (Or.inl ⟨(by rfl), ?_⟩) ?_
                  rotate_left
                  · as_aux_lemma => intro wx hSx; (try dsimp only at hSx); go_simp; try with_reducible rfl
                  try simp only [Act.put, List.setIfInBounds_toArray, List.set_cons_zero, List.set_cons_succ]
                  refine wpT_tail (i := 17) (by as_aux_lemma => rw [HO1.out]; simp only [List.getElem?_toArray, List.getElem?_cons_succ, List.getElem?_cons_zero]; rfl) (by rfl) (fun K' hK => ?_)
                  go_simp
                  go_wp2_with fail
                  refine hK.out _ _ ?_
                  clear hK K'
                  try simp only [Act.put, List.setIfInBounds_toArray, List.set_cons_zero, List.set_cons_succ]
                  refine wpT_end (NoPanic.normal ?_)
                  clear HO1 O1
                  try simp only [e1, e2]
                  obtain ⟨w7, hw7⟩ : ∃ w7, w7 = (wr.setCell ⟨gb, s, none⟩ (.int .i64 (o0 + y * bz))).drew := ⟨_, rfl⟩
                  have st : Below w.heap.size wr w7 := by rw [hw7]; exact Below.drew (Below.setCell (Below.refl _ _) (by simp; omega) _)
                  have B7 : BI w7 gb (mix ws bs i (s + 1)) := by rw [hw7, Q0.out]; exact BI.set_ (w := wr) b1 s _
                  have F7 : BI w7 gf (mix ws fs i s) := by rw [hw7]; exact BI.far (w := wr) b2 (by simp; omega) _
                  have X7 : Blk w7 g10 28 #[.slice (some ⟨gb, 0, none⟩) 26 26, .slice (some ⟨gf, 0, none⟩) 26 26] := by rw [hw7]; exact Blk.far (w := wr) b3 (by simp; omega) _
                  have Y7 : Blk w7 g12 28 #[.slice (some bd) 26 bc', .slice (some fd) 26 fc] := by rw [hw7]; exact Blk.far (w := wr) b4 (by simp; omega) _
                  have Z7 : Blk w7 w.heap.size 28 #[.slice none 0 0, .slice none 0 0] := by rw [hw7]; exact Blk.far (w := wr) b5 (by simp; omega) _
                  have V7 : Up w w7 := below_up' hUs st
                  rw [← hw7]
                  have hwc7 := (st.cell (p := wd.add i) (by rw [block_of_add]; exact hwd)).trans hwc
                  have hfc7 := (st.cell (p := fd.add s) (by rw [block_of_add]; exact hfd)).trans hfc
                  have a17 := F7.cell (k := s) (by rw [mix_len]; exact hs26)
                  rw [mix_at ws fs i s hs26, ← HO1.out] at a17
                  clear hw7 b1 b2 b3 b4 b5 x0 x1 y0 y1 f0 hS0 hwc hfc hbc a0 a1 st
                  obtain ⟨x0, x1⟩ := duo X7
                  obtain ⟨y0, y1⟩ := duo Y7
                  have f0 := Blk.frozen F7 s
                  have hS1 := And.intro x1 (And.intro a17 (And.intro hwc7 (And.intro y1 hfc7)))
                  go_wp2_with fail
                  refine wp_region_noPanic ?_
                  refine wp_region_till (S := (fun wx => wx.cell? ⟨g10, 1, none⟩ = some (.slice (some ⟨gf, 0, none⟩) 26 26) ∧ wx.cell? ⟨gf, s, none⟩ = some (.int .i64 o1) ∧ wx.cell? (wd.add i) = some (.int .i64 y) ∧ wx.cell? ⟨g12, 1, none⟩ = some (.slice (some fd) 26 fc) ∧ wx.cell? (fd.add s) = some (.int .i64 fz))) 17 [(0, 0), (1, 0), (2, 0), (3, 0), (4, 0), (5, 0), (6, 0), (7, 0), (8, 0), (9, 0), (10, 0), (11, 0), (12, 0), (13, 0), (14, 0), (15, 0), (16, 0)] [17] (by kernel_rfl) (by as_aux_lemma => kernel_rfl) (by as_aux_lemma => kernel_rfl) (by as_aux_lemma => kernel_rfl) (fun _ _ _ _ _ h => h) hS1 ?_
                  intro O2 HO2
                  refine wpT_take (i := 0) (v := ?_) (by as_aux_lemma => rw [HO2.out]; simp only [List.getElem?_toArray, List.getElem?_cons_zero]; rfl) (Or.inl ⟨(by rfl), ?_⟩) ?_
                  rotate_left
                  · as_aux_lemma => intro wx hSx; (try dsimp only at hSx); go_simp; try with_reducible rfl
                  try simp only [Act.put, List.setIfInBounds_toArray, List.set_cons_zero, List.set_cons_succ]
                  refine wpT_take (i := 1) (v := ?_) (by as_aux_lemma => rw [HO2.out]; simp only [List.getElem?_toArray, List.getElem?_cons_succ, List.getElem?_cons_zero]; rfl) (Or.inl ⟨(by rfl), ?_⟩) ?_
                  rotate_left
                  · as_aux_lemma => intro wx hSx; (try dsimp only at hSx); go_simp; try with_reducible rfl
                  try simp only [Act.put, List.setIfInBounds_toArray, List.set_cons_zero, List.set_cons_succ]
                  refine wpT_take (i := 2) (v := ?_) (by as_aux_lemma => rw [HO2.out]; simp only [List.getElem?_toArray, List.getElem?_cons_succ, List.getElem?_cons_zero]; rfl) (Or.inl ⟨(by rfl), ?_⟩) ?_
                  rotate_left
                  · as_aux_lemma => intro wx hSx; (try dsimp only at hSx); go_simp; try with_reducible rfl
                  try simp only [Act.put, List.setIfInBounds_toArray, List.set_cons_zero, List.set_cons_succ]
                  refine wpT_take (i := 3) (v := ?_) (by as_aux_lemma => rw [HO2.out]; simp only [List.getElem?_toArray, List.getElem?_cons_succ, List.getElem?_cons_zero]; rfl) (Or.inl ⟨(by rfl), ?_⟩) ?_
                  rotate_left
                  · as_aux_lemma => intro wx hSx; (try dsimp only at hSx); go_simp; try with_reducible rfl
                  try simp only [Act.put, List.setIfInBounds_toArray, List.set_cons_zero, List.set_cons_succ]
                  refine wpT_take (i := 4) (v := ?_) (by as_aux_lemma => rw [HO2.out]; simp only [List.getElem?_toArray, List.getElem?_cons_succ, List.getElem?_cons_zero]; rfl) (Or.inl ⟨(by rfl), ?_⟩) ?_
                  rotate_left
                  · as_aux_lemma => intro wx hSx; (try dsimp only at hSx); go_simp; try with_reducible rfl
                  try simp only [Act.put, List.setIfInBounds_toArray, List.set_cons_zero, List.set_cons_succ]
                  refine wpT_take (i := 5) (v := ?_) (by as_aux_lemma => rw [HO2.out]; simp only [List.getElem?_toArray, List.getElem?_cons_succ, List.getElem?_cons_zero]; rfl) (Or.inl ⟨(by rfl), ?_⟩) ?_
                  rotate_left
                  · as_aux_lemma => intro wx hSx; (try dsimp only at hSx); go_simp; try with_reducible rfl
                  try simp only [Act.put, List.setIfInBounds_toArray, List.set_cons_zero, List.set_cons_succ]
                  refine wpT_take (i := 6) (v := ?_) (by as_aux_lemma => rw [HO2.out]; simp only [List.getElem?_toArray, List.getElem?_cons_succ, List.getElem?_cons_zero]; rfl) (Or.inl ⟨(by rfl), ?_⟩) ?_
                  rotate_left
                  · as_aux_lemma => intro wx hSx; (try dsimp only at hSx); go_simp; try with_reducible rfl
                  try simp only [Act.put, List.setIfInBounds_toArray, List.set_cons_zero, List.set_cons_succ]
                  refine wpT_take (i := 7) (v := ?_) (by as_aux_lemma => rw [HO2.out]; simp only [List.getElem?_toArray, List.getElem?_cons_succ, List.getElem?_cons_zero]; rfl) (Or.inl ⟨(by rfl), ?_⟩) ?_
                  rotate_left
                  · as_aux_lemma => intro wx hSx; (try dsimp only at hSx); go_simp; try with_reducible rfl
                  try simp only [Act.put, List.setIfInBounds_toArray, List.set_cons_zero, List.set_cons_succ]
                  refine wpT_take (i := 8) (v := ?_) (by as_aux_lemma => rw [HO2.out]; simp only [List.getElem?_toArray, List.getElem?_cons_succ, List.getElem?_cons_zero]; rfl) (Or.inl ⟨(by rfl), ?_⟩) ?_
                  rotate_left
                  · as_aux_lemma => intro wx hSx; (try dsimp only at hSx); go_simp; try with_reducible rfl
                  try simp only [Act.put, List.setIfInBounds_toArray, List.set_cons_zero, List.set_cons_succ]
                  refine wpT_take (i := 9) (v := ?_) (by as_aux_lemma => rw [HO2.out]; simp only [List.getElem?_toArray, List.getElem?_cons_succ, List.getElem?_cons_zero]; rfl) (Or.inl ⟨(by rfl), ?_⟩) ?_
                  rotate_left
                  · as_aux_lemma => intro wx hSx; (try dsimp only at hSx); go_simp; try with_reducible rfl
                  try simp only [Act.put, List.setIfInBounds_toArray, List.set_cons_zero, List.set_cons_succ]
                  refine wpT_take (i := 10) (v := ?_) (by as_aux_lemma => rw [HO2.out]; simp only [List.getElem?_toArray, List.getElem?_cons_succ, List.getElem?_cons_zero]; rfl) (Or.inl ⟨(by rfl), ?_⟩) ?_
                  rotate_left
                  · as_aux_lemma => intro wx hSx; (try dsimp only at hSx); go_simp; try with_reducible rfl
                  try simp only [Act.put, List.setIfInBounds_toArray, List.set_cons_zero, List.set_cons_succ]
                  refine wpT_take (i := 11) (v := ?_) (by as_aux_lemma => rw [HO2.out]; simp only [List.getElem?_toArray, List.getElem?_cons_succ, List.getElem?_cons_zero]; rfl) (Or.inl ⟨(by rfl), ?_⟩) ?_
                  rotate_left
                  · as_aux_lemma => intro wx hSx; (try dsimp only at hSx); go_simp; try with_reducible rfl
                  try simp only [Act.put, List.setIfInBounds_toArray, List.set_cons_zero, List.set_cons_succ]
                  refine wpT_take (i := 12) (v := ?_) (by as_aux_lemma => rw [HO2.out]; simp only [List.getElem?_toArray, List.getElem?_cons_succ, List.getElem?_cons_zero]; rfl) (Or.inl ⟨(by rfl), ?_⟩) ?_
                  rotate_left
                  · as_aux_lemma => intro wx hSx; (try dsimp only at hSx); go_simp; try with_reducible rfl
                  try simp only [Act.put, List.setIfInBounds_toArray, List.set_cons_zero, List.set_cons_succ]
                  refine wpT_take (i := 13) (v := ?_) (by as_aux_lemma => rw [HO2.out]; simp only [List.getElem?_toArray, List.getElem?_cons_succ, List.getElem?_cons_zero]; rfl) (Or.inl ⟨(by rfl), ?_⟩) ?_
                  rotate_left
                  · as_aux_lemma => intro wx hSx; (try dsimp only at hSx); go_simp; try with_reducible rfl
                  try simp only [Act.put, List.setIfInBounds_toArray, List.set_cons_zero, List.set_cons_succ]
                  refine wpT_take (i := 14) (v := ?_) (by as_aux_lemma => rw [HO2.out]; simp only [List.getElem?_toArray, List.getElem?_cons_succ, List.getElem?_cons_zero]; rfl) (Or.inl ⟨(by rfl), ?_⟩) ?_
                  rotate_left
                  · as_aux_lemma => intro wx hSx; (try dsimp only at hSx); go_simp; try with_reducible rfl
                  try simp only [Act.put, List.setIfInBounds_toArray, List.set_cons_zero, List.set_cons_succ]
                  refine wpT_take (i := 15) (v := ?_) (by as_aux_lemma => rw [HO2.out]; simp only [List.getElem?_toArray, List.getElem?_cons_succ, List.getElem?_cons_zero]; rfl) (Or.inl ⟨(by rfl), ?_⟩) ?_
                  rotate_left
                  · as_aux_lemma => intro wx hSx; (try dsimp only at hSx); go_simp; try with_reducible rfl
                  try simp only [Act.put, List.setIfInBounds_toArray, List.set_cons_zero, List.set_cons_succ]
                  refine wpT_take (i := 16) (v := ?_) (by as_aux_lemma => rw [HO2.out]; simp only [List.getElem?_toArray, List.getElem?_cons_succ, List.getElem?_cons_zero]; rfl) (Or.inl ⟨(by rfl), ?_⟩) ?_
                  rotate_left
                  · as_aux_lemma => intro wx hSx; (try dsimp only at hSx); go_simp; try with_reducible rfl
                  try simp only [Act.put, List.setIfInBounds_toArray, List.set_cons_zero, List.set_cons_succ]
                  refine wpT_tail (i := 17) (by as_aux_lemma => rw [HO2.out]; simp only [List.getElem?_toArray, List.getElem?_cons_succ, List.getElem?_cons_zero]; rfl) (by rfl) (fun K' hK => ?_)
                  go_simp
                  go_wp2_with fail
                  refine hK.out _ _ ?_
                  clear hK K'
                  try simp only [Act.put, List.setIfInBounds_toArray, List.set_cons_zero, List.set_cons_succ]
                  refine wpT_end (NoPanic.normal ?_)
                  clear HO2 O2
                  try simp only [e3, e4]
                  obtain ⟨w8, hw8⟩ : ∃ w8, w8 = (w7.setCell ⟨gf, s, none⟩ (.int .i64 (o1 + y * fz))).drew := ⟨_, rfl⟩
                  have st : Below w.heap.size w7 w8 := by rw [hw8]; exact Below.drew (Below.setCell (Below.refl _ _) (by simp; omega) _)
                  have B8 : BI w8 gb (mix ws bs i (s + 1)) := by rw [hw8]; exact BI.far (w := w7) B7 (by simp; omega) _
                  have F8 : BI w8 gf (mix ws fs i (s + 1)) := by rw [hw8, Q1.out]; exact BI.set_ (w := w7) F7 s _
                  have X8 : Blk w8 g10 28 #[.slice (some ⟨gb, 0, none⟩) 26 26, .slice (some ⟨gf, 0, none⟩) 26 26] := by rw [hw8]; exact Blk.far (w := w7) X7 (by simp; omega) _
                  have Y8 : Blk w8 g12 28 #[.slice (some bd) 26 bc', .slice (some fd) 26 fc] := by rw [hw8]; exact Blk.far (w := w7) Y7 (by simp; omega) _
                  have Z8 : Blk w8 w.heap.size 28 #[.slice none 0 0, .slice none 0 0] := by rw [hw8]; exact Blk.far (w := w7) Z7 (by simp; omega) _
                  have V8 : Up w w8 := below_up' V7 st
                  rw [← hw8]
                  clear hw8 B7 F7 X7 Y7 Z7 V7 st x0 x1 y0 y1 f0 hS1 hwc7 hfc7 a17
                  go_wp2_with fail
                  go_roundw
                  case rel => exact ⟨s + 1, by omega, by go_num, Lib.hid ⟨B8, F8, X8, Y8, Z8⟩, V8⟩
                  case measure => simp [intOf]; omega
                · have hs' : s = 26 := by omega
                  subst hs'
                  obtain ⟨b1, b2, b3, b4, b5⟩ := HB.out
                  rw [mix_end] at b1 b2
                  have HB9 := Lib.hid (And.intro b1 (And.intro b2 (And.intro b3 b5)))
                  clear b1 b2 b3 b4 b5 HB
                  go_wp2_with fail
                  go_roundw
                  case rel => exact ⟨i + 1, by omega, by go_num, HB9, hUs⟩
                  case measure => simp [intOf]; omega
            case neg =>
              have hij' : i = j := by omega
              subst hij'
              have hgo := combV_go (ms := ms.map fun m => (m.b, m.f)) (ws := ws) HALL.out (by rw [List.length_map, ← HN.out, ← HM.out]) HWB.out
              rw [← HBS.out, ← HFS.out, List.length_map, ← HN.out] at hgo
              have HGO := Lib.hid hgo
              obtain ⟨b1, b2, b3, b5⟩ := HB.out
              have hl1 : (wlist ws bs i).length = 26 := by simp [wlist]
              have hl2 : (wlist ws fs i).length = 26 := by simp [wlist]
              have HSI := Lib.hid (And.intro b1.si b2.si)
              have HK1 := Lib.hid (fun (wx : World) (u : Up wr wx) => bounded_any (some ⟨gb, 0, none⟩) 26 (wlist ws bs i) wx.heap.size wx (b1.up u).si (by rw [hl1]; omega))
              have HK2 := Lib.hid (fun (wx : World) (u : Up wr wx) => bounded_any (some ⟨gf, 0, none⟩) 26 (wlist ws fs i) wx.heap.size wx (b2.up u).si (by rw [hl2]; omega))
              have HK3 := Lib.hid (fun (wx : World) (u : Up wr wx) => valid_any (some ⟨gb, 0, none⟩) 26 (some ⟨gf, 0, none⟩) 26 (wlist ws bs i) (wlist ws fs i) wx (b1.up u).si (b2.up u).si (by rw [hl1]; omega) (by rw [hl2]; omega))
              rw [hl1] at HK1
              rw [hl2] at HK2
              rw [hl1, hl2] at HK3
              have HL1 := Lib.hid hl1
              have HL2 := Lib.hid hl2
              obtain ⟨tb, htb⟩ : ∃ t, t = bndB (wlist ws bs i) := ⟨_, rfl⟩
              obtain ⟨tf, htf⟩ : ∃ t, t = bndB (wlist ws fs i) := ⟨_, rfl⟩
              obtain ⟨tv, htv⟩ : ∃ t, t = validB (wlist ws bs i) (wlist ws fs i) := ⟨_, rfl⟩
              rw [← htb] at HK1 HGO
              rw [← htf] at HK2 HGO
              rw [← htv] at HK3 HGO
              have rr := b5
              have UU := hUi
              obtain ⟨x0, x1⟩ := duo b3
              obtain ⟨d0, d1⟩ := duo rr
              have f0 := rr.frozen 0
              have f1 := rr.frozen 1
              clear htb htf htv hl1 hl2 hgo HB b1 b2 hij
              cases tb with
              | false =>
                have HV := Lib.hid (show combV (ms.map fun m => (m.b, m.f)) ws = (([], []), 9) by rw [HGO.out]; simp)
                go_wp2_with fail
                refine (HK1.out wr (Up.refl _)).mono ?_
                rintro e w9 ⟨rfl, rfl⟩
                go_wp2_with fail
                obtain ⟨c0, c1⟩ := duo (duo_set rr (.slice none 0 0) (.slice none 0 0))
                refine bodyPost_ret (v := .tuple #[.agg #[.slice none 0 0, .slice none 0 0], .int .i64 9]) ?_ rfl (by rw [HV.out]; exact ⟨none, 0, none, 0, rfl, SI.nil_, SI.nil_, up_duo UU (Nat.le_refl _) _ _⟩)
                simp [results, Try.results22, go_sem, c0, c1]
              | true =>
                cases tf with
                | false =>
                  have HV := Lib.hid (show combV (ms.map fun m => (m.b, m.f)) ws = (([], []), 9) by rw [HGO.out]; simp)
                  go_wp2_with fail
                  refine (HK1.out wr (Up.refl _)).mono ?_
                  rintro e w9 ⟨rfl, rfl⟩
                  go_wp2_with fail
                  refine (HK2.out wr (Up.refl _)).mono ?_
                  rintro e w9 ⟨rfl, rfl⟩
                  go_wp2_with fail
                  obtain ⟨c0, c1⟩ := duo (duo_set rr (.slice none 0 0) (.slice none 0 0))
                  refine bodyPost_ret (v := .tuple #[.agg #[.slice none 0 0, .slice none 0 0], .int .i64 9]) ?_ rfl (by rw [HV.out]; exact ⟨none, 0, none, 0, rfl, SI.nil_, SI.nil_, up_duo UU (Nat.le_refl _) _ _⟩)
                  simp [results, Try.results22, go_sem, c0, c1]
                | true =>
                  go_wp2_with fail
                  refine (HK1.out wr (Up.refl _)).mono ?_
                  rintro e w9 ⟨rfl, rfl⟩
                  go_wp2_with fail
                  refine (HK2.out wr (Up.refl _)).mono ?_
                  rintro e w9 ⟨rfl, rfl⟩
                  go_wp2_with fail
                  refine (HK3.out wr (Up.refl _)).mono ?_
                  rintro e w9 ⟨rfl, U9⟩
                  have b9 := b3.up U9
                  have r9 := rr.up U9
                  have HS9 := Lib.hid (And.intro (HSI.out.1.up U9) (HSI.out.2.up U9))
                  replace UU := UU.trans U9
                  clear x0 x1 d0 d1 f0 f1 rr
                  have rr := r9
                  obtain ⟨x0, x1⟩ := duo b9
                  obtain ⟨d0, d1⟩ := duo rr
                  have f0 := rr.frozen 0
                  have f1 := rr.frozen 1
                  cases tv with
                  | false =>
                    have HV := Lib.hid (show combV (ms.map fun m => (m.b, m.f)) ws = (([], []), 10) by rw [HGO.out]; simp)
                    go_wp2_with fail
                    obtain ⟨c0, c1⟩ := duo (duo_set rr (.slice none 0 0) (.slice none 0 0))
                    refine bodyPost_ret (v := .tuple #[.agg #[.slice none 0 0, .slice none 0 0], .int .i64 10]) ?_ rfl (by rw [HV.out]; exact ⟨none, 0, none, 0, rfl, SI.nil_, SI.nil_, up_duo UU (Nat.le_refl _) _ _⟩)
                    simp [results, Try.results22, go_sem, c0, c1]
                  | true =>
                    have HV := Lib.hid (show combV (ms.map fun m => (m.b, m.f)) ws = ((wlist ws bs i, wlist ws fs i), 0) by rw [HGO.out]; simp)
                    go_wp2_with fail
                    obtain ⟨c0, c1⟩ := duo (duo_set rr (.slice (some ⟨gb, 0, none⟩) 26 26) (.slice (some ⟨gf, 0, none⟩) 26 26))
                    refine bodyPost_ret (v := .tuple #[.agg #[.slice (some ⟨gb, 0, none⟩) 26 26, .slice (some ⟨gf, 0, none⟩) 26 26], .int .i64 0]) ?_ rfl (by rw [HV.out]; exact ⟨some ⟨gb, 0, none⟩, 26, some ⟨gf, 0, none⟩, 26, by rw [HL1.out, HL2.out], comb_si HS9.out.1 rr (by simp) (by simp), comb_si HS9.out.2 rr (by simp) (by simp), up_duo UU (Nat.le_refl _) _ _⟩)
                    simp [results, Try.results22, go_sem, c0, c1]
end Go.Proofs.Ytnaeabkknmoaeaa
