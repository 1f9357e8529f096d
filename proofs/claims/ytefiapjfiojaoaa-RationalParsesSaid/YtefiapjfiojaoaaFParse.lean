/-
  The contract of the document's Parse; what is the same for numbers that neither can read.
-/
import Derived.Test.YtefiapjfiojaoaaFDigits
import Derived.Test.YtefiapjfiojaoaaNParseP
import Derived.Test.YtefiapjfiojaoaaPF
import Derived.Deep.CutBlock
import Derived.Deep.LoopGhost
namespace Go.Proofs.Ytefiapjfiojaoaa
open Go Go.RowKit

theorem ba_eq {x : ByteArray} {l : List UInt8} (h : x.data.toList = l) : x = ⟨l.toArray⟩ := by subst h; simp
theorem rDigits_t (l : List UInt8) (w : World) (hs : l.length ≤ 1000) : Calls Try.prog 12 #[.string ⟨l.toArray⟩] w (RetPD w (pdig l)) := by
  have h := rDigits_any ⟨l.toArray⟩ w (by rw [mk_size]; exact hs)
  rwa [mk_list] at h
theorem slice_from (S : ByteArray) {t : List UInt8} (hS : S.data.toList = t) (i : Nat) (h : i ≤ S.size) (wx : World) : (Instr.slice 9 (.string S) (some (.int .i64 (i : Int))) none none).run Try.prog wx = .ok (.string ⟨(t.drop i).toArray⟩) wx := by
  have hl : t.length = S.size := by rw [← hS]; exact (Lib.size_eq S).symm
  rw [run_slice_string_from_if wx 9 S .i64 i (by kernel_rfl), if_pos ⟨by omega, by omega⟩, Int.toNat_natCast]
  rw [ba_eq (show (S.extract i S.size).data.toList = t.drop i by rw [Lib.extract_data, hS, List.take_of_length_le (by rw [List.length_drop]; omega)])]
theorem slice_to (S : ByteArray) {t : List UInt8} (hS : S.data.toList = t) (i : Nat) (h : i ≤ S.size) (wx : World) : (Instr.slice 9 (.string S) none (some (.int .i64 (i : Int))) none).run Try.prog wx = .ok (.string ⟨(t.take i).toArray⟩) wx := by
  rw [run_slice_string_to_if wx 9 S .i64 i (by kernel_rfl), if_pos ⟨by omega, by omega⟩, Int.toNat_natCast]
  rw [ba_eq (show (S.extract 0 i).data.toList = t.take i by rw [Lib.extract_data, hS, List.drop_zero, Nat.sub_zero])]
theorem index_s (S : ByteArray) {t : List UInt8} (hS : S.data.toList = t) (j : Nat) (hj : j < t.length) (wx : World) : (Instr.index 9 (.string S) (.int .i64 (j : Int))).run Try.prog wx = .ok (.int .u8 (t[j].toNat : Int)) wx := by
  subst hS
  have hl : S.data.toList.length = S.size := (Lib.size_eq S).symm
  rw [hl] at hj
  rw [run_index_string wx 9 S .i64 j (by kernel_rfl), dif_pos ⟨by omega, by omega⟩]
  rfl
def SlRel (t : List UInt8) (g : Nat) (i : Value) : Prop := ∃ k : Nat, k + g = t.length ∧ i = .int .i64 k ∧ ∀ j (hj : j < t.length), j < k → t[j] ≠ 47
theorem SlRel.start (t : List UInt8) : SlRel t t.length (.int .i64 0) := ⟨0, Nat.zero_add _, rfl, fun j hj h => absurd h (by omega)⟩

set_option maxRecDepth 100000 in
set_option maxHeartbeats 6400000 in
theorem rParse_t (s : ByteArray) (l : List UInt8) (hl : s.data.toList = l) (w : World) (hs : l.length ≤ 1000) : Calls Try.prog 5 #[.string s] w (RetP w (ptext l)) := by
  have hsz : s.size = l.length := by rw [← hl]; exact Lib.size_eq s
  unfold ptext
  rw [trim_eq, neg_head]
  obtain ⟨O, hO⟩ : ∃ O, O = ptext2 (decide (0 < l.length) && (l.getD 0 0 == 45)) (if (decide (0 < l.length) && (l.getD 0 0 == 45)) = true then l.drop 1 else l) := ⟨_, rfl⟩
  rw [← hO]
  have HE : Hid (s.data.toList = l) := Lib.hid hl
  by_cases h0 : l.length = 0
  · have hnil : l = [] := List.eq_nil_of_length_eq_zero h0
    have hF : ptext2 false l = O := by rw [hO, hnil]; rfl
    have hS0 : decide (0 < s.size) = false := decide_eq_false (by omega)
    have hz0 : s.size ≤ 1000 := by omega
    have HF := Lib.hid hF
    have HL : Hid (s.size = l.length) := Lib.hid hsz
    clear hnil hF hO hl hsz h0
    go_enter Try.func5, Try.ntmps5
    go_upto_block 0 with fail
    have HA := Lib.hid (slice_to s HE.out (slash l) (by rw [HL.out]; exact slash_le l))
    have HB : Hid (slash l < s.size → ∀ wx : World, (Instr.slice 9 (.string s) (some (.int .i64 ((slash l : Int) + 1))) none none).run Try.prog wx = .ok (.string ⟨(l.drop (slash l + 1)).toArray⟩) wx) := Lib.hid fun h => slice_from s HE.out (slash l + 1) h
    have HI := Lib.hid (index_s s HE.out)
    obtain ⟨w1, hw1⟩ : ∃ w1, w1 = w.alloc (Obj.cells #[.bool false, .slice none 0 0, .slice none 0 0] 24) := ⟨_, rfl⟩
    have U1 : Up w w1 := by rw [hw1]; exact (Below.refl _ _).alloc (Nat.le_refl _) _
    have r1 : Blk w1 w.heap.size 24 #[.bool false, .slice none 0 0, .slice none 0 0] := by rw [hw1]; exact Blk.new _ _ _
    rw [← hw1]
    clear hw1
    go_cut [5, 6] from 23 to 33 (fun a i wx => a = .int .i64 (slash l : Nat) ∧ wx = w1)
    case first =>
      go_wp2_with fail
      go_loopg [5, 6] l.length (fun g a i wr => a = .int .i64 (s.size : Nat) ∧ SlRel l g i ∧ wr = w1)
      case atStart => exact ⟨rfl, SlRel.start l, rfl⟩
      case round =>
        obtain ⟨rfl, ⟨k, hk, rfl, hnk⟩, hwr⟩ := hrel
        subst hwr
        by_cases hlt : k < s.size
        · have hkl : k < l.length := by have := HL.out; omega
          have hix := HI.out k hkl
          obtain ⟨b, hbv⟩ : ∃ b, b = l[k].toNat := ⟨_, rfl⟩
          rw [← hbv] at hix
          by_cases hb : b = 47
          · have hbq : ((b : Int) == 47) = true := beq_iff_eq.2 (by omega)
            have hsk : slash l = k := slash_at hkl (UInt8.toNat_inj.1 (by rw [← hbv, hb]; rfl)) (fun j hj h => hnk j hj h)
            have HK := Lib.hid hsk
            clear hnk hb hbv hsk
            go_wp2_with fail
            go_meet
            rw [HK.out]
            exact ⟨rfl, rfl⟩
          · have hbq : ((b : Int) == 47) = false := beq_eq_false_iff_ne.2 (by omega)
            have hne : l[k] ≠ 47 := fun h => hb (by rw [hbv, h]; rfl)
            have HN : Hid (SlRel l (gk - 1) (.int .i64 ((k : Int) + 1))) := Lib.hid ⟨k + 1, by omega, by go_num, fun j hj h => by
              rcases Nat.lt_or_ge j k with h' | h'
              · exact hnk j hj h'
              · have : k = j := by omega
                subst this
                exact hne⟩
            clear hnk hb hbv hne
            go_wp2_with fail
            go_roundg (gk - 1)
            case measure => omega
            case rel => exact ⟨rfl, HN.out, rfl⟩
        · have hk' : k = l.length := by have := HL.out; omega
          have hsk : slash l = s.size := by rw [HL.out]; exact slash_none fun j hj => hnk j hj (by omega)
          have HK := Lib.hid hsk
          clear hnk hsk hk'
          go_wp2_with fail
          go_meet
          rw [HK.out]
          exact ⟨rfl, rfl⟩
    case rest =>
      obtain ⟨rfl, hwc⟩ := hcut
      have hwc' := hwc.symm
      subst hwc'
      have P1 := Lib.hid (@p2_num false l)
      have P2 := Lib.hid (fun (n : Nat) => @p2_int false l n)
      have P3 := Lib.hid (fun (n : Nat) => @p2_den false l n)
      have P4 := Lib.hid (fun (n d : Nat) => @p2_zero false l n d)
      have P5 := Lib.hid (fun (n d : Nat) => @p2_frac false l n d)
      obtain ⟨o, ho⟩ : ∃ o, o = ptext2 false l := ⟨_, rfl⟩
      rw [← ho] at P1 P2 P3 P4 P5
      have hslz : slash l ≤ s.size := by rw [HL.out]; exact slash_le l
      have hsa := HA.out
      have HB' := HB
      have hlt' : l.length = s.size := HL.out.symm
      rw [hlt'] at P2 P3 P4 P5
      obtain ⟨a, ha⟩ : ∃ a, a = l.take (slash l) := ⟨_, rfl⟩
      obtain ⟨b, hb⟩ : ∃ b, b = l.drop (slash l + 1) := ⟨_, rfl⟩
      have hal : a.length ≤ 1000 := by rw [ha, List.length_take]; omega
      have hbl : b.length ≤ 1000 := by rw [hb, List.length_drop]; omega
      rw [← ha] at hsa P1 P2 P3 P4 P5
      rw [← hb] at HB' P3 P4 P5
      obtain ⟨p, hp'⟩ : ∃ p, p = slash l := ⟨_, rfl⟩
      rw [← hp'] at hsa HB' P2 P3 P4 P5 hslz ⊢
      have HO := Lib.hid ho
      clear ha hb ho hlt' hp' HA HB HI
      go_wp2_with fail
      refine (rDigits_t a w1 hal).mono ?_
      intro e w3 h3
      clear hsa
      cases hp : pdig a with
      | none =>
        rw [hp] at h3
        obtain ⟨rfl, U3⟩ := h3
        have r3 := r1.up U3
        have U4 := U1.trans U3
        obtain ⟨g30, g31, g32⟩ := tri r3
        have i30 := Blk.frozen r3 0
        have i31 := Blk.frozen r3 1
        have i32 := Blk.frozen r3 2
        go_wp2_with fail
        have hno := P1.out hp
        rw [HO.out, HF.out] at hno
        obtain ⟨c0, c1, c2'⟩ := tri (tri_set r3 (.bool false) (.slice none 0 0) (.slice none 0 0))
        refine bodyPost_ret (v := .tuple #[.agg #[.bool false, .slice none 0 0, .slice none 0 0], .bool false]) ?_ rfl (retp_no r3 U4 (Nat.le_refl _) hno _ _ _)
        simp [results, Try.results5, go_sem, c0, c1, c2']
      | some n =>
        rw [hp] at h3
        obtain ⟨X, cx, rfl, x1, x2, x3, U3⟩ := h3
        have r3 := r1.up U3
        have U4 := U1.trans U3
        have hln := pdig_lt hp
        have HX := Lib.hid (And.intro x1 (And.intro x2 x3))
        clear U1 U3 r1 x1 x2 x3
        by_cases hsl : p < s.size
        · have hq : decide (p < s.size) = true := decide_eq_true hsl
          have hsb := HB'.out hsl
          have HSL := Lib.hid hsl
          clear hsl HB'
          go_wp2_with fail
          obtain ⟨w4, hw4⟩ : ∃ w4, w4 = w3.alloc (Obj.cells #[.int .u32 1] 37) := ⟨_, rfl⟩
          have U5 : Up w3 w4 := by rw [hw4]; exact (Below.refl _ _).alloc (Nat.le_refl _) _
          rw [← hw4]
          clear hw4
          refine (rDigits_t b w4 hbl).mono ?_
          intro e w5 h5
          clear hsb
          have hxx : Hid (NS w4 X n) := Lib.hid (HX.out.2.2.up U5)
          have r4 := r3.up U5
          have U6' := U4.trans U5
          cases hpb : pdig b with
          | none =>
            rw [hpb] at h5
            obtain ⟨rfl, U7⟩ := h5
            have r5 := r4.up U7
            have U8 := U6'.trans U7
            obtain ⟨g50, g51, g52⟩ := tri r5
            have i50 := Blk.frozen r5 0
            have i51 := Blk.frozen r5 1
            have i52 := Blk.frozen r5 2
            go_wp2_with fail
            have hno := P3.out n hp HSL.out hpb
            rw [HO.out, HF.out] at hno
            obtain ⟨c0, c1, c2'⟩ := tri (tri_set r5 (.bool false) (.slice none 0 0) (.slice none 0 0))
            refine bodyPost_ret (v := .tuple #[.agg #[.bool false, .slice none 0 0, .slice none 0 0], .bool false]) ?_ rfl (retp_no r5 U8 (Nat.le_refl _) hno _ _ _)
            simp [results, Try.results5, go_sem, c0, c1, c2']
          | some d =>
            rw [hpb] at h5
            obtain ⟨Y, cy, rfl, y1, y2, y3, U7⟩ := h5
            have r5 := r4.up U7
            have U8 := U6'.trans U7
            have hlb := pdig_lt hpb
            have HX5 : Hid (NS w5 X n) := Lib.hid (hxx.out.up U7)
            have HY := Lib.hid (And.intro y1 (And.intro y2 y3))
            clear r4 U6' U7 hxx y1 y2 y3 U5 r3 U4
            by_cases hd0 : d = 0
            · have hz : (((ln d : Nat) : Int) == 0) = true := by rw [hd0, ln_zero]; rfl
              have HD0 := Lib.hid hd0
              clear hd0
              obtain ⟨g50, g51, g52⟩ := tri r5
              have i50 := Blk.frozen r5 0
              have i51 := Blk.frozen r5 1
              have i52 := Blk.frozen r5 2
              go_wp2_with fail
              have hno := P4.out n d hp HSL.out hpb HD0.out
              rw [HO.out, HF.out] at hno
              obtain ⟨c0, c1, c2'⟩ := tri (tri_set r5 (.bool false) (.slice none 0 0) (.slice none 0 0))
              refine bodyPost_ret (v := .tuple #[.agg #[.bool false, .slice none 0 0, .slice none 0 0], .bool false]) ?_ rfl (retp_no r5 U8 (Nat.le_refl _) hno _ _ _)
              simp [results, Try.results5, go_sem, c0, c1, c2']
            · have hz : (((ln d : Nat) : Int) == 0) = false := beq_eq_false_iff_ne.2 (by have := mt ln_eq_zero.1 hd0; omega)
              have HP := Lib.hid (build_n (c := cx) (c' := cy) HX5.out HY.out.2.2 (by omega) (by omega) false)
              go_wp2_with fail
              have hyes := P5.out n d hp HSL.out hpb hd0
              rw [HO.out, HF.out] at hyes
              refine HP.out.mono ?_
              rintro e w6 ⟨v5, rfl, hQ, hU5⟩
              obtain ⟨s5', B5, n5, d5, B5', n5', d5', rfl⟩ := hQ.shape
              have HR := Lib.hid hQ
              clear hQ
              have r6 := r5.up hU5
              have U6 := U8.trans hU5
              obtain ⟨g60, g61, g62⟩ := tri r6
              have i60 := Blk.frozen r6 0
              have i61 := Blk.frozen r6 1
              have i62 := Blk.frozen r6 2
              go_wp2_with fail
              obtain ⟨c0, c1, c2'⟩ := tri (tri_set r6 (.bool s5') (.slice B5 n5 d5) (.slice B5' n5' d5'))
              refine bodyPost_ret (v := .tuple #[.agg #[.bool s5', .slice B5 n5 d5, .slice B5' n5' d5'], .bool true]) ?_ rfl (retp_yes hyes r6 HR.out U6 (Nat.le_refl _) _ _ _)
              simp [results, Try.results5, go_sem, c0, c1, c2']
        · have hq : decide (p < s.size) = false := decide_eq_false hsl
          have HSL := Lib.hid hsl
          clear hsl HB'
          go_wp2_with fail
          obtain ⟨w4, hw4⟩ : ∃ w4, w4 = w3.alloc (Obj.cells #[.int .u32 1] 37) := ⟨_, rfl⟩
          have U5 : Up w3 w4 := by rw [hw4]; exact (Below.refl _ _).alloc (Nat.le_refl _) _
          have l4 : Blk w4 w3.heap.size 37 #[.int .u32 1] := by rw [hw4]; exact Blk.new _ _ _
          rw [← hw4]
          clear hw4
          have r4 := r3.up U5
          have U8 := U4.trans U5
          have l1 : ln 1 = 1 := by rw [ln, digs_small (by omega) (by omega)]; rfl
          have HP := Lib.hid (build_n (y := 1) (c := cx) (c' := 1) (HX.out.2.2.up U5) (NS.lit1 l4) (by omega) (by omega) false)
          rw [l1] at HP
          have hyes := P2.out n hp HSL.out
          rw [HO.out, HF.out] at hyes
          refine HP.out.mono ?_
          rintro e w6 ⟨v5, rfl, hQ, hU5⟩
          obtain ⟨s5', B5, n5, d5, B5', n5', d5', rfl⟩ := hQ.shape
          have HR := Lib.hid hQ
          clear hQ
          have r6 := r4.up hU5
          have U6 := U8.trans hU5
          obtain ⟨g60, g61, g62⟩ := tri r6
          have i60 := Blk.frozen r6 0
          have i61 := Blk.frozen r6 1
          have i62 := Blk.frozen r6 2
          go_wp2_with fail
          obtain ⟨c0, c1, c2'⟩ := tri (tri_set r6 (.bool s5') (.slice B5 n5 d5) (.slice B5' n5' d5'))
          refine bodyPost_ret (v := .tuple #[.agg #[.bool s5', .slice B5 n5 d5, .slice B5' n5' d5'], .bool true]) ?_ rfl (retp_yes hyes r6 HR.out U6 (Nat.le_refl _) _ _ _)
          simp [results, Try.results5, go_sem, c0, c1, c2']
  have h1 := index_s s hl 0 (by omega)
  obtain ⟨b0, hb0⟩ : ∃ b, b = l[0].toNat := ⟨_, rfl⟩
  have hget : l.getD 0 0 = l[0] := by rw [List.getD_eq_getElem?_getD, List.getElem?_eq_getElem (by omega)]; rfl
  rw [← hb0, show ((0 : Nat) : Int) = 0 from rfl] at h1
  have hS0 : decide (0 < s.size) = true := decide_eq_true (by omega)
  by_cases hm : b0 = 45
  · have hbq : ((b0 : Int) == 45) = true := beq_iff_eq.2 (by omega)
    have hF : ptext2 true (l.drop 1) = O := by
      have e : (decide (0 < l.length) && (l.getD 0 0 == 45)) = true := by
        rw [Bool.and_eq_true]
        exact ⟨decide_eq_true (by omega), by rw [hget]; exact beq_iff_eq.2 (UInt8.toNat_inj.1 (by rw [← hb0, hm]; rfl))⟩
      rw [hO, e]; rfl
    have hsl1 := slice_from s hl 1 (by omega)
    rw [show ((1 : Nat) : Int) = 1 from rfl] at hsl1
    have HF := Lib.hid hF
    obtain ⟨t, ht⟩ : ∃ t, t = l.drop 1 := ⟨_, rfl⟩
    rw [← ht] at hsl1 HF
    obtain ⟨S, hS⟩ : ∃ S : ByteArray, S = ⟨t.toArray⟩ := ⟨_, rfl⟩
    rw [← hS] at hsl1
    have HE2 : Hid (S.data.toList = t) := Lib.hid (by rw [hS])
    have HL : Hid (S.size = t.length) := Lib.hid (by rw [← HE2.out]; exact Lib.size_eq S)
    have hz0 : S.size ≤ 1000 := by rw [HL.out, ht, List.length_drop]; omega
    clear hm hF hO hl hsz h0 hget hb0 ht hS
    go_enter Try.func5, Try.ntmps5
    go_upto_block 0 with fail
    have HA := Lib.hid (slice_to S HE2.out (slash t) (by rw [HL.out]; exact slash_le t))
    have HB : Hid (slash t < S.size → ∀ wx : World, (Instr.slice 9 (.string S) (some (.int .i64 ((slash t : Int) + 1))) none none).run Try.prog wx = .ok (.string ⟨(t.drop (slash t + 1)).toArray⟩) wx) := Lib.hid fun h => slice_from S HE2.out (slash t + 1) h
    have HI := Lib.hid (index_s S HE2.out)
    obtain ⟨w1, hw1⟩ : ∃ w1, w1 = w.alloc (Obj.cells #[.bool false, .slice none 0 0, .slice none 0 0] 24) := ⟨_, rfl⟩
    have U1 : Up w w1 := by rw [hw1]; exact (Below.refl _ _).alloc (Nat.le_refl _) _
    have r1 : Blk w1 w.heap.size 24 #[.bool false, .slice none 0 0, .slice none 0 0] := by rw [hw1]; exact Blk.new _ _ _
    rw [← hw1]
    clear hw1
    go_cut [5, 6] from 23 to 33 (fun a i wx => a = .int .i64 (slash t : Nat) ∧ wx = w1)
    case first =>
      go_wp2_with fail
      go_loopg [5, 6] t.length (fun g a i wr => a = .int .i64 (S.size : Nat) ∧ SlRel t g i ∧ wr = w1)
      case atStart => exact ⟨rfl, SlRel.start t, rfl⟩
      case round =>
        obtain ⟨rfl, ⟨k, hk, rfl, hnk⟩, hwr⟩ := hrel
        subst hwr
        by_cases hlt : k < S.size
        · have hkl : k < t.length := by have := HL.out; omega
          have hix := HI.out k hkl
          obtain ⟨b, hbv⟩ : ∃ b, b = t[k].toNat := ⟨_, rfl⟩
          rw [← hbv] at hix
          by_cases hb : b = 47
          · have hbq : ((b : Int) == 47) = true := beq_iff_eq.2 (by omega)
            have hsk : slash t = k := slash_at hkl (UInt8.toNat_inj.1 (by rw [← hbv, hb]; rfl)) (fun j hj h => hnk j hj h)
            have HK := Lib.hid hsk
            clear hnk hb hbv hsk
            go_wp2_with fail
            go_meet
            rw [HK.out]
            exact ⟨rfl, rfl⟩
          · have hbq : ((b : Int) == 47) = false := beq_eq_false_iff_ne.2 (by omega)
            have hne : t[k] ≠ 47 := fun h => hb (by rw [hbv, h]; rfl)
            have HN : Hid (SlRel t (gk - 1) (.int .i64 ((k : Int) + 1))) := Lib.hid ⟨k + 1, by omega, by go_num, fun j hj h => by
              rcases Nat.lt_or_ge j k with h' | h'
              · exact hnk j hj h'
              · have : k = j := by omega
                subst this
                exact hne⟩
            clear hnk hb hbv hne
            go_wp2_with fail
            go_roundg (gk - 1)
            case measure => omega
            case rel => exact ⟨rfl, HN.out, rfl⟩
        · have hk' : k = t.length := by have := HL.out; omega
          have hsk : slash t = S.size := by rw [HL.out]; exact slash_none fun j hj => hnk j hj (by omega)
          have HK := Lib.hid hsk
          clear hnk hsk hk'
          go_wp2_with fail
          go_meet
          rw [HK.out]
          exact ⟨rfl, rfl⟩
    case rest =>
      obtain ⟨rfl, hwc⟩ := hcut
      have hwc' := hwc.symm
      subst hwc'
      have P1 := Lib.hid (@p2_num true t)
      have P2 := Lib.hid (fun (n : Nat) => @p2_int true t n)
      have P3 := Lib.hid (fun (n : Nat) => @p2_den true t n)
      have P4 := Lib.hid (fun (n d : Nat) => @p2_zero true t n d)
      have P5 := Lib.hid (fun (n d : Nat) => @p2_frac true t n d)
      obtain ⟨o, ho⟩ : ∃ o, o = ptext2 true t := ⟨_, rfl⟩
      rw [← ho] at P1 P2 P3 P4 P5
      have hslz : slash t ≤ S.size := by rw [HL.out]; exact slash_le t
      have hsa := HA.out
      have HB' := HB
      have hlt' : t.length = S.size := HL.out.symm
      rw [hlt'] at P2 P3 P4 P5
      obtain ⟨a, ha⟩ : ∃ a, a = t.take (slash t) := ⟨_, rfl⟩
      obtain ⟨b, hb⟩ : ∃ b, b = t.drop (slash t + 1) := ⟨_, rfl⟩
      have hal : a.length ≤ 1000 := by rw [ha, List.length_take]; omega
      have hbl : b.length ≤ 1000 := by rw [hb, List.length_drop]; omega
      rw [← ha] at hsa P1 P2 P3 P4 P5
      rw [← hb] at HB' P3 P4 P5
      obtain ⟨p, hp'⟩ : ∃ p, p = slash t := ⟨_, rfl⟩
      rw [← hp'] at hsa HB' P2 P3 P4 P5 hslz ⊢
      have HO := Lib.hid ho
      clear ha hb ho hlt' hp' HA HB HI
      go_wp2_with fail
      refine (rDigits_t a w1 hal).mono ?_
      intro e w3 h3
      clear hsa
      cases hp : pdig a with
      | none =>
        rw [hp] at h3
        obtain ⟨rfl, U3⟩ := h3
        have r3 := r1.up U3
        have U4 := U1.trans U3
        obtain ⟨g30, g31, g32⟩ := tri r3
        have i30 := Blk.frozen r3 0
        have i31 := Blk.frozen r3 1
        have i32 := Blk.frozen r3 2
        go_wp2_with fail
        have hno := P1.out hp
        rw [HO.out, HF.out] at hno
        obtain ⟨c0, c1, c2'⟩ := tri (tri_set r3 (.bool false) (.slice none 0 0) (.slice none 0 0))
        refine bodyPost_ret (v := .tuple #[.agg #[.bool false, .slice none 0 0, .slice none 0 0], .bool false]) ?_ rfl (retp_no r3 U4 (Nat.le_refl _) hno _ _ _)
        simp [results, Try.results5, go_sem, c0, c1, c2']
      | some n =>
        rw [hp] at h3
        obtain ⟨X, cx, rfl, x1, x2, x3, U3⟩ := h3
        have r3 := r1.up U3
        have U4 := U1.trans U3
        have hln := pdig_lt hp
        have HX := Lib.hid (And.intro x1 (And.intro x2 x3))
        clear U1 U3 r1 x1 x2 x3
        by_cases hsl : p < S.size
        · have hq : decide (p < S.size) = true := decide_eq_true hsl
          have hsb := HB'.out hsl
          have HSL := Lib.hid hsl
          clear hsl HB'
          go_wp2_with fail
          obtain ⟨w4, hw4⟩ : ∃ w4, w4 = w3.alloc (Obj.cells #[.int .u32 1] 37) := ⟨_, rfl⟩
          have U5 : Up w3 w4 := by rw [hw4]; exact (Below.refl _ _).alloc (Nat.le_refl _) _
          rw [← hw4]
          clear hw4
          refine (rDigits_t b w4 hbl).mono ?_
          intro e w5 h5
          clear hsb
          have hxx : Hid (NS w4 X n) := Lib.hid (HX.out.2.2.up U5)
          have r4 := r3.up U5
          have U6' := U4.trans U5
          cases hpb : pdig b with
          | none =>
            rw [hpb] at h5
            obtain ⟨rfl, U7⟩ := h5
            have r5 := r4.up U7
            have U8 := U6'.trans U7
            obtain ⟨g50, g51, g52⟩ := tri r5
            have i50 := Blk.frozen r5 0
            have i51 := Blk.frozen r5 1
            have i52 := Blk.frozen r5 2
            go_wp2_with fail
            have hno := P3.out n hp HSL.out hpb
            rw [HO.out, HF.out] at hno
            obtain ⟨c0, c1, c2'⟩ := tri (tri_set r5 (.bool false) (.slice none 0 0) (.slice none 0 0))
            refine bodyPost_ret (v := .tuple #[.agg #[.bool false, .slice none 0 0, .slice none 0 0], .bool false]) ?_ rfl (retp_no r5 U8 (Nat.le_refl _) hno _ _ _)
            simp [results, Try.results5, go_sem, c0, c1, c2']
          | some d =>
            rw [hpb] at h5
            obtain ⟨Y, cy, rfl, y1, y2, y3, U7⟩ := h5
            have r5 := r4.up U7
            have U8 := U6'.trans U7
            have hlb := pdig_lt hpb
            have HX5 : Hid (NS w5 X n) := Lib.hid (hxx.out.up U7)
            have HY := Lib.hid (And.intro y1 (And.intro y2 y3))
            clear r4 U6' U7 hxx y1 y2 y3 U5 r3 U4
            by_cases hd0 : d = 0
            · have hz : (((ln d : Nat) : Int) == 0) = true := by rw [hd0, ln_zero]; rfl
              have HD0 := Lib.hid hd0
              clear hd0
              obtain ⟨g50, g51, g52⟩ := tri r5
              have i50 := Blk.frozen r5 0
              have i51 := Blk.frozen r5 1
              have i52 := Blk.frozen r5 2
              go_wp2_with fail
              have hno := P4.out n d hp HSL.out hpb HD0.out
              rw [HO.out, HF.out] at hno
              obtain ⟨c0, c1, c2'⟩ := tri (tri_set r5 (.bool false) (.slice none 0 0) (.slice none 0 0))
              refine bodyPost_ret (v := .tuple #[.agg #[.bool false, .slice none 0 0, .slice none 0 0], .bool false]) ?_ rfl (retp_no r5 U8 (Nat.le_refl _) hno _ _ _)
              simp [results, Try.results5, go_sem, c0, c1, c2']
            · have hz : (((ln d : Nat) : Int) == 0) = false := beq_eq_false_iff_ne.2 (by have := mt ln_eq_zero.1 hd0; omega)
              have HP := Lib.hid (build_n (c := cx) (c' := cy) HX5.out HY.out.2.2 (by omega) (by omega) true)
              go_wp2_with fail
              have hyes := P5.out n d hp HSL.out hpb hd0
              rw [HO.out, HF.out] at hyes
              refine HP.out.mono ?_
              rintro e w6 ⟨v5, rfl, hQ, hU5⟩
              obtain ⟨s5', B5, n5, d5, B5', n5', d5', rfl⟩ := hQ.shape
              have HR := Lib.hid hQ
              clear hQ
              have r6 := r5.up hU5
              have U6 := U8.trans hU5
              obtain ⟨g60, g61, g62⟩ := tri r6
              have i60 := Blk.frozen r6 0
              have i61 := Blk.frozen r6 1
              have i62 := Blk.frozen r6 2
              go_wp2_with fail
              obtain ⟨c0, c1, c2'⟩ := tri (tri_set r6 (.bool s5') (.slice B5 n5 d5) (.slice B5' n5' d5'))
              refine bodyPost_ret (v := .tuple #[.agg #[.bool s5', .slice B5 n5 d5, .slice B5' n5' d5'], .bool true]) ?_ rfl (retp_yes hyes r6 HR.out U6 (Nat.le_refl _) _ _ _)
              simp [results, Try.results5, go_sem, c0, c1, c2']
        · have hq : decide (p < S.size) = false := decide_eq_false hsl
          have HSL := Lib.hid hsl
          clear hsl HB'
          go_wp2_with fail
          obtain ⟨w4, hw4⟩ : ∃ w4, w4 = w3.alloc (Obj.cells #[.int .u32 1] 37) := ⟨_, rfl⟩
          have U5 : Up w3 w4 := by rw [hw4]; exact (Below.refl _ _).alloc (Nat.le_refl _) _
          have l4 : Blk w4 w3.heap.size 37 #[.int .u32 1] := by rw [hw4]; exact Blk.new _ _ _
          rw [← hw4]
          clear hw4
          have r4 := r3.up U5
          have U8 := U4.trans U5
          have l1 : ln 1 = 1 := by rw [ln, digs_small (by omega) (by omega)]; rfl
          have HP := Lib.hid (build_n (y := 1) (c := cx) (c' := 1) (HX.out.2.2.up U5) (NS.lit1 l4) (by omega) (by omega) true)
          rw [l1] at HP
          have hyes := P2.out n hp HSL.out
          rw [HO.out, HF.out] at hyes
          refine HP.out.mono ?_
          rintro e w6 ⟨v5, rfl, hQ, hU5⟩
          obtain ⟨s5', B5, n5, d5, B5', n5', d5', rfl⟩ := hQ.shape
          have HR := Lib.hid hQ
          clear hQ
          have r6 := r4.up hU5
          have U6 := U8.trans hU5
          obtain ⟨g60, g61, g62⟩ := tri r6
          have i60 := Blk.frozen r6 0
          have i61 := Blk.frozen r6 1
          have i62 := Blk.frozen r6 2
          go_wp2_with fail
          obtain ⟨c0, c1, c2'⟩ := tri (tri_set r6 (.bool s5') (.slice B5 n5 d5) (.slice B5' n5' d5'))
          refine bodyPost_ret (v := .tuple #[.agg #[.bool s5', .slice B5 n5 d5, .slice B5' n5' d5'], .bool true]) ?_ rfl (retp_yes hyes r6 HR.out U6 (Nat.le_refl _) _ _ _)
          simp [results, Try.results5, go_sem, c0, c1, c2']
  · have hbq : ((b0 : Int) == 45) = false := beq_eq_false_iff_ne.2 (by omega)
    have hF : ptext2 false l = O := by
      have e : (decide (0 < l.length) && (l.getD 0 0 == 45)) = false := by
        rw [Bool.and_eq_false_iff]
        exact .inr (by rw [hget]; exact beq_eq_false_iff_ne.2 fun h => hm (by rw [hb0, h]; rfl))
      rw [hO, e]; rfl
    have hz0 : s.size ≤ 1000 := by omega
    have HF := Lib.hid hF
    have HL : Hid (s.size = l.length) := Lib.hid hsz
    clear hm hF hO hl hsz h0 hget hb0
    go_enter Try.func5, Try.ntmps5
    go_upto_block 0 with fail
    have HA := Lib.hid (slice_to s HE.out (slash l) (by rw [HL.out]; exact slash_le l))
    have HB : Hid (slash l < s.size → ∀ wx : World, (Instr.slice 9 (.string s) (some (.int .i64 ((slash l : Int) + 1))) none none).run Try.prog wx = .ok (.string ⟨(l.drop (slash l + 1)).toArray⟩) wx) := Lib.hid fun h => slice_from s HE.out (slash l + 1) h
    have HI := Lib.hid (index_s s HE.out)
    obtain ⟨w1, hw1⟩ : ∃ w1, w1 = w.alloc (Obj.cells #[.bool false, .slice none 0 0, .slice none 0 0] 24) := ⟨_, rfl⟩
    have U1 : Up w w1 := by rw [hw1]; exact (Below.refl _ _).alloc (Nat.le_refl _) _
    have r1 : Blk w1 w.heap.size 24 #[.bool false, .slice none 0 0, .slice none 0 0] := by rw [hw1]; exact Blk.new _ _ _
    rw [← hw1]
    clear hw1
    go_cut [5, 6] from 23 to 33 (fun a i wx => a = .int .i64 (slash l : Nat) ∧ wx = w1)
    case first =>
      go_wp2_with fail
      go_loopg [5, 6] l.length (fun g a i wr => a = .int .i64 (s.size : Nat) ∧ SlRel l g i ∧ wr = w1)
      case atStart => exact ⟨rfl, SlRel.start l, rfl⟩
      case round =>
        obtain ⟨rfl, ⟨k, hk, rfl, hnk⟩, hwr⟩ := hrel
        subst hwr
        by_cases hlt : k < s.size
        · have hkl : k < l.length := by have := HL.out; omega
          have hix := HI.out k hkl
          obtain ⟨b, hbv⟩ : ∃ b, b = l[k].toNat := ⟨_, rfl⟩
          rw [← hbv] at hix
          by_cases hb : b = 47
          · have hbq : ((b : Int) == 47) = true := beq_iff_eq.2 (by omega)
            have hsk : slash l = k := slash_at hkl (UInt8.toNat_inj.1 (by rw [← hbv, hb]; rfl)) (fun j hj h => hnk j hj h)
            have HK := Lib.hid hsk
            clear hnk hb hbv hsk
            go_wp2_with fail
            go_meet
            rw [HK.out]
            exact ⟨rfl, rfl⟩
          · have hbq : ((b : Int) == 47) = false := beq_eq_false_iff_ne.2 (by omega)
            have hne : l[k] ≠ 47 := fun h => hb (by rw [hbv, h]; rfl)
            have HN : Hid (SlRel l (gk - 1) (.int .i64 ((k : Int) + 1))) := Lib.hid ⟨k + 1, by omega, by go_num, fun j hj h => by
              rcases Nat.lt_or_ge j k with h' | h'
              · exact hnk j hj h'
              · have : k = j := by omega
                subst this
                exact hne⟩
            clear hnk hb hbv hne
            go_wp2_with fail
            go_roundg (gk - 1)
            case measure => omega
            case rel => exact ⟨rfl, HN.out, rfl⟩
        · have hk' : k = l.length := by have := HL.out; omega
          have hsk : slash l = s.size := by rw [HL.out]; exact slash_none fun j hj => hnk j hj (by omega)
          have HK := Lib.hid hsk
          clear hnk hsk hk'
          go_wp2_with fail
          go_meet
          rw [HK.out]
          exact ⟨rfl, rfl⟩
    case rest =>
      obtain ⟨rfl, hwc⟩ := hcut
      have hwc' := hwc.symm
      subst hwc'
      have P1 := Lib.hid (@p2_num false l)
      have P2 := Lib.hid (fun (n : Nat) => @p2_int false l n)
      have P3 := Lib.hid (fun (n : Nat) => @p2_den false l n)
      have P4 := Lib.hid (fun (n d : Nat) => @p2_zero false l n d)
      have P5 := Lib.hid (fun (n d : Nat) => @p2_frac false l n d)
      obtain ⟨o, ho⟩ : ∃ o, o = ptext2 false l := ⟨_, rfl⟩
      rw [← ho] at P1 P2 P3 P4 P5
      have hslz : slash l ≤ s.size := by rw [HL.out]; exact slash_le l
      have hsa := HA.out
      have HB' := HB
      have hlt' : l.length = s.size := HL.out.symm
      rw [hlt'] at P2 P3 P4 P5
      obtain ⟨a, ha⟩ : ∃ a, a = l.take (slash l) := ⟨_, rfl⟩
      obtain ⟨b, hb⟩ : ∃ b, b = l.drop (slash l + 1) := ⟨_, rfl⟩
      have hal : a.length ≤ 1000 := by rw [ha, List.length_take]; omega
      have hbl : b.length ≤ 1000 := by rw [hb, List.length_drop]; omega
      rw [← ha] at hsa P1 P2 P3 P4 P5
      rw [← hb] at HB' P3 P4 P5
      obtain ⟨p, hp'⟩ : ∃ p, p = slash l := ⟨_, rfl⟩
      rw [← hp'] at hsa HB' P2 P3 P4 P5 hslz ⊢
      have HO := Lib.hid ho
      clear ha hb ho hlt' hp' HA HB HI
      go_wp2_with fail
      refine (rDigits_t a w1 hal).mono ?_
      intro e w3 h3
      clear hsa
      cases hp : pdig a with
      | none =>
        rw [hp] at h3
        obtain ⟨rfl, U3⟩ := h3
        have r3 := r1.up U3
        have U4 := U1.trans U3
        obtain ⟨g30, g31, g32⟩ := tri r3
        have i30 := Blk.frozen r3 0
        have i31 := Blk.frozen r3 1
        have i32 := Blk.frozen r3 2
        go_wp2_with fail
        have hno := P1.out hp
        rw [HO.out, HF.out] at hno
        obtain ⟨c0, c1, c2'⟩ := tri (tri_set r3 (.bool false) (.slice none 0 0) (.slice none 0 0))
        refine bodyPost_ret (v := .tuple #[.agg #[.bool false, .slice none 0 0, .slice none 0 0], .bool false]) ?_ rfl (retp_no r3 U4 (Nat.le_refl _) hno _ _ _)
        simp [results, Try.results5, go_sem, c0, c1, c2']
      | some n =>
        rw [hp] at h3
        obtain ⟨X, cx, rfl, x1, x2, x3, U3⟩ := h3
        have r3 := r1.up U3
        have U4 := U1.trans U3
        have hln := pdig_lt hp
        have HX := Lib.hid (And.intro x1 (And.intro x2 x3))
        clear U1 U3 r1 x1 x2 x3
        by_cases hsl : p < s.size
        · have hq : decide (p < s.size) = true := decide_eq_true hsl
          have hsb := HB'.out hsl
          have HSL := Lib.hid hsl
          clear hsl HB'
          go_wp2_with fail
          obtain ⟨w4, hw4⟩ : ∃ w4, w4 = w3.alloc (Obj.cells #[.int .u32 1] 37) := ⟨_, rfl⟩
          have U5 : Up w3 w4 := by rw [hw4]; exact (Below.refl _ _).alloc (Nat.le_refl _) _
          rw [← hw4]
          clear hw4
          refine (rDigits_t b w4 hbl).mono ?_
          intro e w5 h5
          clear hsb
          have hxx : Hid (NS w4 X n) := Lib.hid (HX.out.2.2.up U5)
          have r4 := r3.up U5
          have U6' := U4.trans U5
          cases hpb : pdig b with
          | none =>
            rw [hpb] at h5
            obtain ⟨rfl, U7⟩ := h5
            have r5 := r4.up U7
            have U8 := U6'.trans U7
            obtain ⟨g50, g51, g52⟩ := tri r5
            have i50 := Blk.frozen r5 0
            have i51 := Blk.frozen r5 1
            have i52 := Blk.frozen r5 2
            go_wp2_with fail
            have hno := P3.out n hp HSL.out hpb
            rw [HO.out, HF.out] at hno
            obtain ⟨c0, c1, c2'⟩ := tri (tri_set r5 (.bool false) (.slice none 0 0) (.slice none 0 0))
            refine bodyPost_ret (v := .tuple #[.agg #[.bool false, .slice none 0 0, .slice none 0 0], .bool false]) ?_ rfl (retp_no r5 U8 (Nat.le_refl _) hno _ _ _)
            simp [results, Try.results5, go_sem, c0, c1, c2']
          | some d =>
            rw [hpb] at h5
            obtain ⟨Y, cy, rfl, y1, y2, y3, U7⟩ := h5
            have r5 := r4.up U7
            have U8 := U6'.trans U7
            have hlb := pdig_lt hpb
            have HX5 : Hid (NS w5 X n) := Lib.hid (hxx.out.up U7)
            have HY := Lib.hid (And.intro y1 (And.intro y2 y3))
            clear r4 U6' U7 hxx y1 y2 y3 U5 r3 U4
            by_cases hd0 : d = 0
            · have hz : (((ln d : Nat) : Int) == 0) = true := by rw [hd0, ln_zero]; rfl
              have HD0 := Lib.hid hd0
              clear hd0
              obtain ⟨g50, g51, g52⟩ := tri r5
              have i50 := Blk.frozen r5 0
              have i51 := Blk.frozen r5 1
              have i52 := Blk.frozen r5 2
              go_wp2_with fail
              have hno := P4.out n d hp HSL.out hpb HD0.out
              rw [HO.out, HF.out] at hno
              obtain ⟨c0, c1, c2'⟩ := tri (tri_set r5 (.bool false) (.slice none 0 0) (.slice none 0 0))
              refine bodyPost_ret (v := .tuple #[.agg #[.bool false, .slice none 0 0, .slice none 0 0], .bool false]) ?_ rfl (retp_no r5 U8 (Nat.le_refl _) hno _ _ _)
              simp [results, Try.results5, go_sem, c0, c1, c2']
            · have hz : (((ln d : Nat) : Int) == 0) = false := beq_eq_false_iff_ne.2 (by have := mt ln_eq_zero.1 hd0; omega)
              have HP := Lib.hid (build_n (c := cx) (c' := cy) HX5.out HY.out.2.2 (by omega) (by omega) false)
              go_wp2_with fail
              have hyes := P5.out n d hp HSL.out hpb hd0
              rw [HO.out, HF.out] at hyes
              refine HP.out.mono ?_
              rintro e w6 ⟨v5, rfl, hQ, hU5⟩
              obtain ⟨s5', B5, n5, d5, B5', n5', d5', rfl⟩ := hQ.shape
              have HR := Lib.hid hQ
              clear hQ
              have r6 := r5.up hU5
              have U6 := U8.trans hU5
              obtain ⟨g60, g61, g62⟩ := tri r6
              have i60 := Blk.frozen r6 0
              have i61 := Blk.frozen r6 1
              have i62 := Blk.frozen r6 2
              go_wp2_with fail
              obtain ⟨c0, c1, c2'⟩ := tri (tri_set r6 (.bool s5') (.slice B5 n5 d5) (.slice B5' n5' d5'))
              refine bodyPost_ret (v := .tuple #[.agg #[.bool s5', .slice B5 n5 d5, .slice B5' n5' d5'], .bool true]) ?_ rfl (retp_yes hyes r6 HR.out U6 (Nat.le_refl _) _ _ _)
              simp [results, Try.results5, go_sem, c0, c1, c2']
        · have hq : decide (p < s.size) = false := decide_eq_false hsl
          have HSL := Lib.hid hsl
          clear hsl HB'
          go_wp2_with fail
          obtain ⟨w4, hw4⟩ : ∃ w4, w4 = w3.alloc (Obj.cells #[.int .u32 1] 37) := ⟨_, rfl⟩
          have U5 : Up w3 w4 := by rw [hw4]; exact (Below.refl _ _).alloc (Nat.le_refl _) _
          have l4 : Blk w4 w3.heap.size 37 #[.int .u32 1] := by rw [hw4]; exact Blk.new _ _ _
          rw [← hw4]
          clear hw4
          have r4 := r3.up U5
          have U8 := U4.trans U5
          have l1 : ln 1 = 1 := by rw [ln, digs_small (by omega) (by omega)]; rfl
          have HP := Lib.hid (build_n (y := 1) (c := cx) (c' := 1) (HX.out.2.2.up U5) (NS.lit1 l4) (by omega) (by omega) false)
          rw [l1] at HP
          have hyes := P2.out n hp HSL.out
          rw [HO.out, HF.out] at hyes
          refine HP.out.mono ?_
          rintro e w6 ⟨v5, rfl, hQ, hU5⟩
          obtain ⟨s5', B5, n5, d5, B5', n5', d5', rfl⟩ := hQ.shape
          have HR := Lib.hid hQ
          clear hQ
          have r6 := r4.up hU5
          have U6 := U8.trans hU5
          obtain ⟨g60, g61, g62⟩ := tri r6
          have i60 := Blk.frozen r6 0
          have i61 := Blk.frozen r6 1
          have i62 := Blk.frozen r6 2
          go_wp2_with fail
          obtain ⟨c0, c1, c2'⟩ := tri (tri_set r6 (.bool s5') (.slice B5 n5 d5) (.slice B5' n5' d5'))
          refine bodyPost_ret (v := .tuple #[.agg #[.bool s5', .slice B5 n5 d5, .slice B5' n5' d5'], .bool true]) ?_ rfl (retp_yes hyes r6 HR.out U6 (Nat.le_refl _) _ _ _)
          simp [results, Try.results5, go_sem, c0, c1, c2']
end Go.Proofs.Ytefiapjfiojaoaa
