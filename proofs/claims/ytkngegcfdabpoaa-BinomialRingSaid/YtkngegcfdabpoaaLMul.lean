/-
  binomial.Mul.
-/
import Derived.Test.YtkngegcfdabpoaaLMulC
import Derived.Test.YtkngegcfdabpoaaLMulV
import Derived.Test.YtkngegcfdabpoaaLZero
import Derived.Test.YtkngegcfdabpoaaLAt
namespace Go.Proofs.Ytkngegcfdabpoaa
open Go.RowKit

set_option maxRecDepth 100000 in
set_option maxHeartbeats 6400000 in
theorem mulL_q {o1 o2 : Option Nat} {A1 A2 : Option Addr} {c1 c2 : Nat} {ps rs : List Rat} {B : Nat} {w : World} (h1 : RX o1 w A1 ps) (h2 : RX o2 w A2 rs) (hB1 : ∀ q ∈ ps, XB o1 q B) (hB2 : ∀ q ∈ rs, XB o2 q B) (hB : 2 ≤ B) (hB' : B ≤ 900) (hl1 : ps.length ≤ 1000) (hl2 : rs.length ≤ 1000) :
    Calls Try.prog 24 #[.slice A1 ps.length c1, .slice A2 rs.length c2] w (RetLB w (mulV ps rs) (mulB ps rs)) := by
  have HNO := @mul_no ps rs
  by_cases hyes : ps.length ≤ 33 ∧ rs.length ≤ 33
  · have hq1 := h1.qs hB1
    have hq2 := h2.qs hB2
    have hm1 := cutL_mem hq1 (by omega)
    have hm2 := cutL_mem hq2 (by omega)
    have hl3 := cutL_len ps
    have hl4 := cutL_len rs
    have HC1 := Lib.hid (bCanonical_q (cap := c1) h1 hB1 (by omega) hl1)
    have HC2 := Lib.hid (fun wx (u : Up w wx) => bCanonical_q (cap := c2) (h2.up u) hB2 (by omega) hl2)
    have HZ := @mul_zero' ps rs hyes
    have HG := @mul_big ps rs hyes
    have HY := @mul_yes ps rs hyes
    obtain ⟨h33, h33'⟩ := hyes
    have t0 : decide (33 < ps.length) = false := by simp; omega
    have t0i : decide ((33 : Int) < (ps.length : Int)) = false := by simp; omega
    have t1 : decide (33 < rs.length) = false := by simp; omega
    have t1i : decide ((33 : Int) < (rs.length : Int)) = false := by simp; omega
    have hl5 : (cutL ps).length ≤ 33 := by omega
    have hl6 : (cutL rs).length ≤ 33 := by omega
    obtain ⟨P, hP⟩ : ∃ P, P = cutL ps := ⟨_, rfl⟩
    obtain ⟨Q, hQ⟩ : ∃ P, P = cutL rs := ⟨_, rfl⟩
    rw [← hP] at hm1 HC1 HZ HG HY hl5
    rw [← hQ] at hm2 HC2 HZ HG HY hl6
    have HM1 := Lib.hid hm1
    have HM2 := Lib.hid hm2
    replace HZ := Lib.hid HZ
    replace HG := Lib.hid HG
    replace HY := Lib.hid HY
    clear h1 h2 hB1 hB2 hq1 hq2 HNO hm1 hm2 hl3 hl4 hP hQ
    go_enter Try.func24, Try.ntmps24
    go_wp2_with fail
    refine HC1.out.mono ?_
    rintro e w1 ⟨g1, rfl, hg1, hO1, U1⟩
    have HP1 := Lib.hid hO1
    clear hO1
    go_wp2_with fail
    refine (HC2.out _ U1).mono ?_
    rintro e w2 ⟨g2, rfl, hg2, hO2, U2⟩
    have HP2 := Lib.hid hO2
    have HP1 := Lib.hid (HP1.out.up U2)
    have V2 := U1.trans U2
    clear hO2 U1 U2 hg1 hg2
    obtain ⟨lp, hlp⟩ : ∃ l, l = P.length := ⟨_, rfl⟩
    obtain ⟨lq, hlq⟩ : ∃ l, l = Q.length := ⟨_, rfl⟩
    have HLP := Lib.hid hlp
    have HLQ := Lib.hid hlq
    rw [← hlp] at hl5 HZ HG HY ⊢
    rw [← hlq] at hl6 HZ HG HY ⊢
    clear hlp hlq
    by_cases z1 : lp = 0
    · have y1 : (lp == 0) = true := by simp [z1]
      have y1i : ((lp : Int) == 0) = true := by simp [z1]
      have HZZ := Lib.hid (HZ.out (.inl z1))
      clear z1
      go_wp2_with fail
      go_ret2
      exact ⟨none, 0, by rw [HZZ.out.1, HZZ.out.2]; rfl, by rw [HZZ.out.1]; exact Nat.le_refl _, by omega, by rw [HZZ.out.1]; exact RX.nil_, V2⟩
    by_cases z2 : lq = 0
    · have y1 : (lp == 0) = false := by simp [z1]
      have y1i : ((lp : Int) == 0) = false := by simp; omega
      have y2 : (lq == 0) = true := by simp [z2]
      have y2i : ((lq : Int) == 0) = true := by simp [z2]
      have HZZ := Lib.hid (HZ.out (.inr z2))
      clear z1 z2
      go_wp2_with fail
      go_ret2
      exact ⟨none, 0, by rw [HZZ.out.1, HZZ.out.2]; rfl, by rw [HZZ.out.1]; exact Nat.le_refl _, by omega, by rw [HZZ.out.1]; exact RX.nil_, V2⟩
    have y1 : (lp == 0) = false := by simp [z1]
    have y1i : ((lp : Int) == 0) = false := by simp; omega
    have y2 : (lq == 0) = false := by simp [z2]
    have y2i : ((lq : Int) == 0) = false := by simp; omega
    by_cases z3 : lp + lq ≤ 34
    · have y3 : decide (34 < lp + lq) = false := by simp; omega
      have y3i : decide ((34 : Int) < (lp : Int) + (lq : Int)) = false := by simp; omega
      have HYY := Lib.hid (HY.out (by omega) z3)
      have HQP := Lib.hid (fun a b k (ha : a ≤ 34) (hb : b ≤ 34) => qs_mulP P Q (B + 1) HM1.out HM2.out (by omega) (by omega) (by rw [← HLQ.out]; omega) a b k ha hb)
      have hmf : ∀ (fn : Fn) (first cap : Array Value) (w : World), (Instr.makeFunc fn first cap).run Try.prog w = .ok (.func fn first cap) w := fun _ _ _ _ => rfl
      clear z1 z2 z3
      go_wp2_with fail
      go_loopw [6, 40] (fun v iv wr => ∃ a : Nat, ∃ acc : List Rat, ∃ A c, a ≤ lp ∧ iv = .int .i64 a ∧ v = .slice A acc.length c ∧ Hid (RX (some 4000000) wr A acc ∧ acc.length ≤ 66 ∧ ∀ k, acc.getD k 0 = mulP P Q a 0 k) ∧ Up w2 wr) (fun _ iv _ => lp - (intOf iv).toNat)
      case atStart => exact ⟨0, [], none, 0, Nat.zero_le _, rfl, rfl, Lib.hid ⟨RX.nil_, by simp, fun k => by rw [mulP_start]; rfl⟩, Up.refl _⟩
      case round =>
        obtain ⟨a, acc, A, c, hak, rfl, rfl, HH, hU⟩ := hrel
        by_cases ha : a < lp
        · have t1 : decide ((a : Int) < (lp : Int)) = true := by simp; omega
          have t2 : decide (a < lp) = true := by simp; omega
          obtain ⟨sx, Xx, ax, cx, Yx, mx, dx, hx, p0, p1, p2⟩ := (HP1.out.up hU).at_ (k := a) (by rw [← HLP.out]; exact ha)
          have i1 : (0 : Int) ≤ a := by omega
          have i2 : (a : Int) < lp := by omega
          have lg1 := (HP1.out.up hU).lt
          have HX := Lib.hid hx
          have HQX := Lib.hid (qs_getD HM1.out (by omega) a)
          have h11 := HP1.out.lt
          clear hx
          go_wp2_with fail
          obtain ⟨w4, hw4⟩ : ∃ w4, w4 = wr.alloc (Obj.cells #[.bool sx, .slice Xx ax cx, .slice Yx mx dx] 31) := ⟨_, rfl⟩
          have U4 : Up wr w4 := by rw [hw4]; exact (Below.refl _ _).alloc (Nat.le_refl _) _
          have bx4 : Blk w4 wr.heap.size 31 #[.bool sx, .slice Xx ax cx, .slice Yx mx dx] := by rw [hw4]; exact Blk.new' _ _ _ rfl
          rw [← hw4]
          obtain ⟨gx, hgx⟩ : ∃ g, g = wr.heap.size := ⟨_, rfl⟩
          rw [← hgx] at bx4 ⊢
          have HI4 := Lib.hid (And.intro bx4 (XV.up HX.out U4))
          have HH4 := Lib.hid (And.intro (HH.out.1.up U4) HH.out.2)
          have V4 := hU.trans U4
          clear hw4 hgx bx4 U4 lg1 HX p0 p1 p2 HH
          go_loopw [6, 47] (fun v iv wr => ∃ b : Nat, ∃ acc : List Rat, ∃ A c, b ≤ lq ∧ iv = .int .i64 b ∧ v = .slice A acc.length c ∧ Hid (RX (some 4000000) wr A acc ∧ acc.length ≤ 66 ∧ ∀ k, acc.getD k 0 = mulP P Q a b k) ∧ Hid (Blk wr gx 31 #[.bool sx, .slice Xx ax cx, .slice Yx mx dx] ∧ XV none wr (.agg #[.bool sx, .slice Xx ax cx, .slice Yx mx dx]) (P.getD a 0)) ∧ Up w2 wr) (fun _ iv _ => lq - (intOf iv).toNat)
          case atStart => exact ⟨0, acc, A, c, Nat.zero_le _, rfl, rfl, HH4, HI4, V4⟩
          case round =>
            obtain ⟨b, acc, A, c, hbk, rfl, rfl, HH, HI, hU⟩ := hrel
            clear HH4 HI4 V4
            obtain ⟨bx, hx⟩ := HI.out
            by_cases hb : b < lq
            · have t3 : decide ((b : Int) < (lq : Int)) = true := by simp; omega
              have t4 : decide (b < lq) = true := by simp; omega
              obtain ⟨sy, Xy, ay, cy, Yy, my, dy, hy, r0, r1, r2⟩ := (HP2.out.up hU).at_ (k := b) (by rw [← HLQ.out]; exact hb)
              have i3 : (0 : Int) ≤ b := by omega
              have i4 : (b : Int) < lq := by omega
              have lg2 := (HP2.out.up hU).lt
              obtain ⟨x0, x1, x2⟩ := tri bx
              have lx := bx.lt
              have lx2 : gx ≠ wr.heap.size := by omega
              have HQY := Lib.hid (qs_getD HM2.out (by omega) b)
              have HMU := Lib.hid (fun wx (u : Up wr wx) => mul_q (XV.iv (o := none) (hx.up u) HQX.out) (XV.iv (o := none) (hy.up u) HQY.out) (by omega))
              have HQZ := Lib.hid (Nat.le_trans (qs_mul (P.getD a 0) (Q.getD b 0)) (Nat.add_le_add HQX.out HQY.out))
              have HST := Lib.hid (fun k => mulP_step P Q a b k)
              have HROW := Lib.hid (fun (wx : World) => row_q a b (by omega) (by omega) (w := wx))
              obtain ⟨z, hz⟩ : ∃ z, z = P.getD a 0 * Q.getD b 0 := ⟨_, rfl⟩
              rw [← hz] at HMU HQZ HST
              have HBX := Lib.hid bx
              clear hx hy hz bx
              go_wp2_with fail
              have U5 : Up wr (wr.alloc (Obj.cells #[.bool sy, .slice Xy ay cy, .slice Yy my dy] 31)) := Below.alloc (Up.refl _) (Nat.le_refl _) _
              refine (HMU.out _ U5).mono ?_
              rintro e w6 ⟨v6, rfl, hQ6, U6⟩
              obtain ⟨s6, A6, n6, c6, B6, m6, d6, rfl⟩ := hQ6.shape
              have U7 : Up w6 (w6.alloc (Obj.cells #[.bool s6, .slice A6 n6 c6, .slice B6 m6 d6] 31)) := Below.alloc (Up.refl _) (Nat.le_refl _) _
              have HS := Lib.hid (sign_q ((hQ6.up U7).iv HQZ.out) (by omega))
              have HQ6 := Lib.hid hQ6
              have V6 := U5.trans U6
              clear hQ6 x0 x1 x2 r0 r1 r2 lx lx2 lg2 U5 U6
              go_wp2_with fail
              by_cases hz0 : z = 0
              · rw [sgn_eq0 hz0] at HS
                refine HS.out.mono ?_
                rintro e w8 ⟨rfl, U8⟩
                have V8 := V6.trans (U7.trans U8)
                have HH8 := Lib.hid (show RX (some 4000000) w8 A acc ∧ acc.length ≤ 66 ∧ ∀ k, acc.getD k 0 = mulP P Q a (b + 1) k from ⟨HH.out.1.up V8, HH.out.2.1, fun k => by rw [HST.out, HH.out.2.2, hz0]; grind⟩)
                have HI8 := Lib.hid (And.intro (HBX.out.up V8) (XV.up HI.out.2 V8))
                clear hz0
                go_wp2_with fail
                go_roundw
                case rel => exact ⟨b + 1, acc, A, c, by omega, by go_num, rfl, HH8, HI8, hU.trans V8⟩
                case measure => simp [intOf]; omega
              · have hs := sgn_ne0 hz0
                obtain ⟨sg, hsg⟩ : ∃ s, s = sgn z := ⟨_, rfl⟩
                rw [← hsg] at HS hs
                have t5 : (sg == 0) = false := by simp; omega
                clear hsg hs hz0
                refine HS.out.mono ?_
                rintro e w8 ⟨rfl, U8⟩
                have b8 : Blk w8 w6.heap.size 31 #[.bool s6, .slice A6 n6 c6, .slice B6 m6 d6] := (Blk.new w6 31 #[.bool s6, .slice A6 n6 c6, .slice B6 m6 d6]).up U8
                have q8 := (HQ6.out.up U7).up U8
                have V8 := V6.trans (U7.trans U8)
                have hr8 := HH.out.1.up V8
                obtain ⟨gz, hgz⟩ : ∃ g, g = w6.heap.size := ⟨_, rfl⟩
                rw [← hgz] at b8 ⊢
                clear hgz U7 U8 V6
                go_wp2_with fail
                refine (HROW.out w8).mono ?_
                rintro e w9 ⟨g9, rfl, hg9, hO9, U9⟩
                have HCB := Lib.hid (combine_q (A1 := A) (c1 := c) (c2 := (rowQ a b).length) 50 #[.pointer (some ⟨gz, 0, none⟩)] (fun x y => x + z * y) (hr8.up U9) (hO9.rx.iv (B := 4000000) (fun q hq => by
                    simp only [rowQ, List.mem_map, List.mem_range] at hq
                    obtain ⟨k, hk, rfl⟩ := hq
                    exact Nat.le_trans (qs_pc a b k (by omega) (by omega) (by omega)) (by omega))) (by have := HH.out.2.1; omega) (by rw [rowQ_len]; omega) (enters_own Try.func50 (by kernel_rfl) rfl) (fun wx va vb i hi u hva hvb => mulClo_q hva hvb ((b8.up U9).up u) (((q8.up U9).up u).iv HQZ.out) (by omega) (by omega)))
                have HLC := Lib.hid (combL_len (fun x y => x + z * y) acc (rowQ a b))
                have HGC := Lib.hid (fun k => (comb_mul acc a b z k).trans (by rw [HH.out.2.2, ← HST.out]))
                have HB9 := Lib.hid ((HBX.out.up V8).up U9)
                have V9 := V8.trans U9
                clear hO9 hr8 b8 q8
                go_wp2_with fail
                refine HCB.out.mono ?_
                rintro e w10 ⟨g10, he, hg10, hO10, U10⟩
                obtain ⟨acc', hacc⟩ : ∃ l, l = combL (fun x y => x + z * y) acc (rowQ a b) := ⟨_, rfl⟩
                rw [← hacc] at he hO10 HGC HLC
                subst he
                have HH10 := Lib.hid (show RX (some 4000000) w10 (some ⟨g10, 0, none⟩) acc' ∧ acc'.length ≤ 66 ∧ ∀ k, acc'.getD k 0 = mulP P Q a (b + 1) k from ⟨hO10.rx.iv (fun q hq => by
                    obtain ⟨i, hi, rfl⟩ := List.getElem_of_mem hq
                    have e1 := HGC.out i
                    rw [getD_eq hi] at e1
                    show qs _ ≤ _
                    rw [e1]
                    exact HQP.out a (b + 1) i (by omega) (by omega)), by rw [HLC.out, rowQ_len]; have := HH.out.2.1; omega, HGC.out⟩)
                have HI10 := Lib.hid (And.intro (HB9.out.up U10) (XV.up HI.out.2 (V9.trans U10)))
                clear hO10 hacc HCB HLC HGC
                go_wp2_with fail
                go_roundw
                case rel => exact ⟨b + 1, acc', some ⟨g10, 0, none⟩, acc'.length, by omega, by go_num, rfl, HH10, HI10, hU.trans (V9.trans U10)⟩
                case measure => simp [intOf]; omega
            · have t3 : decide ((b : Int) < (lq : Int)) = false := by simp; omega
              have t4 : decide (b < lq) = false := by simp; omega
              have HH2 := Lib.hid (show RX (some 4000000) wr A acc ∧ acc.length ≤ 66 ∧ ∀ k, acc.getD k 0 = mulP P Q (a + 1) 0 k from ⟨HH.out.1, HH.out.2.1, fun k => by rw [← mulP_next, ← HLQ.out, show lq = b by omega]; exact HH.out.2.2 k⟩)
              clear bx hx HI HH
              go_wp2_with fail
              go_roundw
              case rel => exact ⟨a + 1, acc, A, c, by omega, by go_num, rfl, HH2, hU⟩
              case measure => simp [intOf]; omega
        · have t1 : decide ((a : Int) < (lp : Int)) = false := by simp; omega
          have t2 : decide (a < lp) = false := by simp; omega
          have HCT := Lib.hid (show cutL acc = cutL (pmul P Q) from cutL_ext fun k => by rw [pmul_all, ← mulP_end, ← HLP.out, show lp = a by omega]; exact HH.out.2.2 k)
          have HCN := bCanonical_q (cap := c) HH.out.1 (B := 4000000) (fun q _ => Nat.le_refl _) (by omega) (by have := HH.out.2.1; omega)
          rw [HCT.out, ← HYY.out.1] at HCN
          have HCN := Lib.hid HCN
          have HML := Lib.hid (mulV_len ps rs)
          clear HCT HH
          go_wp2_with fail
          refine HCN.out.mono ?_
          rintro e w10 ⟨g10, rfl, h1, h2, h3⟩
          have H9 := Lib.hid h2.rx
          clear h2
          go_wp2_with fail
          go_ret2
          exact ⟨_, _, by rw [HYY.out.2]; rfl, Nat.le_refl _, by have := HML.out; omega, H9.out, V2.trans (hU.trans h3)⟩
    · have y3 : decide (34 < lp + lq) = true := by simp; omega
      have y3i : decide ((34 : Int) < (lp : Int) + (lq : Int)) = true := by simp; omega
      have HGG := Lib.hid (HG.out (by omega) z3)
      go_wp2_with fail
      go_ret2
      exact ⟨none, 0, by rw [HGG.out.1, HGG.out.2]; rfl, by rw [HGG.out.1]; exact Nat.le_refl _, by omega, by rw [HGG.out.1]; exact RX.nil_, V2⟩
  · have HP := Lib.hid (HNO hyes)
    by_cases h33 : 33 < ps.length
    · have t1 : decide (33 < ps.length) = true := by simp; omega
      have t1i : decide ((33 : Int) < (ps.length : Int)) = true := by simp; omega
      clear hyes h1 h2 hB1 hB2
      go_enter Try.func24, Try.ntmps24
      go_wp2_with fail
      go_ret2
      exact ⟨none, 0, by rw [HP.out.1, HP.out.2]; rfl, by rw [HP.out.1]; exact Nat.le_refl _, by omega, by rw [HP.out.1]; exact RX.nil_, Up.refl _⟩
    · have t0 : decide (33 < ps.length) = false := by simpa using h33
      have t0i : decide ((33 : Int) < (ps.length : Int)) = false := by simp; omega
      have t2 : decide (33 < rs.length) = true := by simp; omega
      have t2i : decide ((33 : Int) < (rs.length : Int)) = true := by simp; omega
      clear hyes h1 h2 hB1 hB2
      go_enter Try.func24, Try.ntmps24
      go_wp2_with fail
      go_ret2
      exact ⟨none, 0, by rw [HP.out.1, HP.out.2]; rfl, by rw [HP.out.1]; exact Nat.le_refl _, by omega, by rw [HP.out.1]; exact RX.nil_, Up.refl _⟩
end Go.Proofs.Ytkngegcfdabpoaa
