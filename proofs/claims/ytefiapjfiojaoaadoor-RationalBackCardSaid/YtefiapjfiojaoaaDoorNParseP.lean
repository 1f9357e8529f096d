/-
  The contract of rational.Parse.
-/
import Derived.Test.YtefiapjfiojaoaaDoorNParse
import Derived.Test.YtefiapjfiojaoaaDoorTText
import Derived.Test.YtefiapjfiojaoaaDoorPD
import Derived.Test.YtefiapjfiojaoaaDoorPF
import Derived.Test.YtefiapjfiojaoaaDoorShelf
namespace Go.Proofs.YtefiapjfiojaoaaDoor
open Go Go.RowKit

def zeroRat : Value := .agg #[.bool false, .slice none 0 0, .slice none 0 0]
/-- What Parse leaves. -/
def RetP (w0 : World) (o : Option Rat) (e : Ending) (w' : World) : Prop :=
  match o with
  | some q => RetQB w0 q true e w'
  | none => e = .returned (.tuple #[zeroRat, .bool false]) ∧ Up w0 w'
theorem mk_list (l : List UInt8) : (⟨l.toArray⟩ : ByteArray).data.toList = l := by simp
theorem mk_size (l : List UInt8) : (⟨l.toArray⟩ : ByteArray).size = l.length := by rw [Lib.size_eq, mk_list]
theorem parseDigits_t (l : List UInt8) (w : World) (hs : l.length ≤ 1000) : Calls Tryd.prog 33 #[.string ⟨l.toArray⟩] w (RetPD w (pdig l)) := by
  have h := parseDigits_any ⟨l.toArray⟩ w (by rw [mk_size]; exact hs)
  rwa [mk_list] at h
theorem cutPrefix_t (l : List UInt8) (w : World) : Calls Tryd.prog 31 #[.string ⟨l.toArray⟩, .string ⟨#[45]⟩] w fun e w' => e = .returned (.tuple #[.string ⟨(Lib.trimPrefix l [45]).toArray⟩, .bool (Lib.hasPrefix l [45])]) ∧ w = w' := by
  have h := Tryd.strings_CutPrefix ⟨l.toArray⟩ ⟨#[45]⟩ w
  rw [mk_list] at h
  exact h.mono fun e w' ⟨h1, h2⟩ => ⟨h1, h2.symm⟩
theorem cut_t (t : List UInt8) (m : Int) (w : World) (hs : t.length ≤ 1000) (hm : w.cell? ⟨0, 0, none⟩ = some (.int .i64 m)) :
    Calls Tryd.prog 32 #[.string ⟨t.toArray⟩, .string ⟨#[47]⟩] w fun e w' => e = .returned (.tuple #[.string ⟨(t.take (slash t)).toArray⟩, .string ⟨(t.drop (slash t + 1)).toArray⟩, .bool (decide (slash t < t.length))]) ∧ Up w w' := by
  have h := Tryd.strings_Cut ⟨t.toArray⟩ ⟨#[47]⟩ m w (by rw [mk_size]; omega) hm
  rw [mk_list, show (⟨#[47]⟩ : ByteArray).data.toList = [47] from rfl, cut_slash] at h
  exact h.mono fun e w' ⟨h1, n, h2⟩ => ⟨h1, by rw [h2]; exact below_drewN (Up.refl w) n⟩

theorem retp_no {w w3 : World} {g : Nat} {b : Bool} {C C' : Option Addr} {a1 k1 a2 k2 : Nat} (r : Blk w3 g 24 #[.bool b, .slice C a1 k1, .slice C' a2 k2]) (hU : Up w w3) (hg : w.heap.size ≤ g) {o : Option Rat} (ho : o = none) (x y z : Value) :
    RetP w o (.returned (.tuple #[zeroRat, .bool false])) (((w3.setCell ⟨g, 0, none⟩ x).setCell ⟨g, 1, none⟩ y).setCell ⟨g, 2, none⟩ z) := by
  subst ho
  exact ⟨rfl, up_tri hU hg _ _ _⟩
theorem retp_yes {w w4 : World} {g : Nat} {t : TypeId} {b : Bool} {C C' : Option Addr} {a1 k1 a2 k2 : Nat} {o : Option Rat} {q : Rat} (ho : o = some q) (r : Blk w4 g t #[.bool b, .slice C a1 k1, .slice C' a2 k2]) {v : Value} (hq : QV w4 v q) (hU : Up w w4) (hg : w.heap.size ≤ g) (x y z : Value) :
    RetP w o (.returned (.tuple #[v, .bool true])) (((w4.setCell ⟨g, 0, none⟩ x).setCell ⟨g, 1, none⟩ y).setCell ⟨g, 2, none⟩ z) := by
  subst ho
  exact ret_qb r hq hU hg
theorem fq_of {w : World} {s : Bool} {X Y : Option Addr} {n d cx cy : Nat} (x1 : ln n ≤ cx) (x2 : cx ≤ 9223372036854775807) (x3 : NS w X n) (y1 : ln d ≤ cy) (y2 : cy ≤ 9223372036854775807) (y3 : NS w Y d) (hd : d ≠ 0) (hn : ln n ≤ 23) (hl : ln d ≤ 23) :
    FQ w (.agg #[.bool s, .slice X (ln n) cx, .slice Y (ln d) cy]) (fq s n d) 23 :=
  ⟨s, n, d, ⟨X, cx, Y, cy, rfl, x3, y3, x1, x2, y1, y2⟩, hd, hn, hl, rfl⟩

set_option maxRecDepth 100000 in
set_option maxHeartbeats 6400000 in
theorem parse_t (l : List UInt8) (w : World) (m : Int) (hs : l.length ≤ 1000) (hm : w.cell? ⟨0, 0, none⟩ = some (.int .i64 m)) : Calls Tryd.prog 16 #[.string ⟨l.toArray⟩] w (RetP w (ptext l)) := by
  unfold ptext
  have htl : (Lib.trimPrefix l [45]).length ≤ 1000 := by
    unfold Lib.trimPrefix
    split
    · rw [List.length_drop]; omega
    · exact hs
  have HC := Lib.hid (cutPrefix_t l)
  obtain ⟨t, ht⟩ : ∃ t, t = Lib.trimPrefix l [45] := ⟨_, rfl⟩
  obtain ⟨neg, hneg⟩ : ∃ b, b = Lib.hasPrefix l [45] := ⟨_, rfl⟩
  rw [← ht, ← hneg] at HC ⊢
  rw [← ht] at htl
  clear ht hneg
  go_enter Tryd.func16, Tryd.ntmps16
  go_wp2_with fail
  obtain ⟨w1, hw1⟩ : ∃ w1, w1 = w.alloc (Obj.cells #[.bool false, .slice none 0 0, .slice none 0 0] 24) := ⟨_, rfl⟩
  have U1 : Up w w1 := by rw [hw1]; exact (Below.refl _ _).alloc (Nat.le_refl _) _
  have r1 : Blk w1 w.heap.size 24 #[.bool false, .slice none 0 0, .slice none 0 0] := by rw [hw1]; exact Blk.new _ _ _
  rw [← hw1]
  clear hw1
  refine (HC.out w1).mono ?_
  rintro e w2 ⟨rfl, rfl⟩
  go_wp2_with fail
  refine (cut_t t m w1 htl ((U1.cell (lt_of_cell' hm)).trans hm)).mono ?_
  rintro e w2 ⟨rfl, U2⟩
  have hal : (t.take (slash t)).length ≤ 1000 := by rw [List.length_take]; omega
  have hbl : (t.drop (slash t + 1)).length ≤ 1000 := by rw [List.length_drop]; omega
  have P1 := Lib.hid (@p2_num neg t)
  have P2 := Lib.hid (fun (n : Nat) => @p2_int neg t n)
  have P3 := Lib.hid (fun (n : Nat) => @p2_den neg t n)
  have P4 := Lib.hid (fun (n d : Nat) => @p2_zero neg t n d)
  have P5 := Lib.hid (fun (n d : Nat) => @p2_frac neg t n d)
  obtain ⟨o, ho⟩ : ∃ o, o = ptext2 neg t := ⟨_, rfl⟩
  rw [← ho] at P1 P2 P3 P4 P5
  obtain ⟨a, ha⟩ : ∃ a, a = t.take (slash t) := ⟨_, rfl⟩
  obtain ⟨b, hb⟩ : ∃ b, b = t.drop (slash t + 1) := ⟨_, rfl⟩
  rw [← ha] at hal P1 P2 P3 P4 P5 ⊢
  rw [← hb] at hbl P3 P4 P5 ⊢
  have hm2 := (U2.cell (lt_of_cell' ((U1.cell (lt_of_cell' hm)).trans hm))).trans ((U1.cell (lt_of_cell' hm)).trans hm)
  replace r1 := r1.up U2
  replace U1 := U1.trans U2
  have HO := Lib.hid ho
  clear ha hb htl U2 hm HC ho
  go_wp2_with fail
  refine (parseDigits_t a w2 hal).mono ?_
  intro e w3 h3
  cases hp : pdig a with
  | none =>
    rw [hp] at h3
    obtain ⟨rfl, U3⟩ := h3
    have r3 := r1.up U3
    have U4 := U1.trans U3
    obtain ⟨g30, g31, g32⟩ := tri r3
    have i30 := Blk.frozen r3 0
    have i31 := Blk.frozen r3 1
    have i32 := Blk.frozen r3 2
    go_wp2_with fail
    have hno := P1.out hp
    rw [HO.out] at hno
    obtain ⟨c0, c1, c2'⟩ := tri (tri_set r3 (.bool false) (.slice none 0 0) (.slice none 0 0))
    refine bodyPost_ret (v := .tuple #[.agg #[.bool false, .slice none 0 0, .slice none 0 0], .bool false]) ?_ rfl (retp_no r3 U4 (Nat.le_refl _) hno _ _ _)
    simp [results, Tryd.results16, go_sem, c0, c1, c2']
  | some n =>
    rw [hp] at h3
    obtain ⟨X, cx, rfl, x1, x2, x3, U3⟩ := h3
    have r3 := r1.up U3
    have U4 := U1.trans U3
    have hln := pdig_lt hp
    have HX := Lib.hid (And.intro x1 (And.intro x2 x3))
    have h3s := U4.size
    clear U1 U3 r1 x1 x2 x3
    by_cases hsl : slash t < t.length
    · have hq : decide (slash t < t.length) = true := decide_eq_true hsl
      rw [hq]
      have HSL := Lib.hid hsl
      clear hsl hq
      go_wp2_with fail
      obtain ⟨w4, hw4⟩ : ∃ w4, w4 = w3.alloc (Obj.cells #[.int .u32 1] 25) := ⟨_, rfl⟩
      have U5 : Up w3 w4 := by rw [hw4]; exact (Below.refl _ _).alloc (Nat.le_refl _) _
      rw [← hw4]
      clear hw4
      refine (parseDigits_t b w4 hbl).mono ?_
      intro e w5 h5
      have hxx : Hid (NS w4 X n) := Lib.hid (HX.out.2.2.up U5)
      have r4 := r3.up U5
      have U6' := U4.trans U5
      cases hpb : pdig b with
      | none =>
        rw [hpb] at h5
        obtain ⟨rfl, U7⟩ := h5
        have r5 := r4.up U7
        have U8 := U6'.trans U7
        obtain ⟨g50, g51, g52⟩ := tri r5
        have i50 := Blk.frozen r5 0
        have i51 := Blk.frozen r5 1
        have i52 := Blk.frozen r5 2
        go_wp2_with fail
        have hno := P3.out n hp HSL.out hpb
        rw [HO.out] at hno
        obtain ⟨c0, c1, c2'⟩ := tri (tri_set r5 (.bool false) (.slice none 0 0) (.slice none 0 0))
        refine bodyPost_ret (v := .tuple #[.agg #[.bool false, .slice none 0 0, .slice none 0 0], .bool false]) ?_ rfl (retp_no r5 U8 (Nat.le_refl _) hno _ _ _)
        simp [results, Tryd.results16, go_sem, c0, c1, c2']
      | some d =>
        rw [hpb] at h5
        obtain ⟨Y, cy, rfl, y1, y2, y3, U7⟩ := h5
        have r5 := r4.up U7
        have U8 := U6'.trans U7
        have hlb := pdig_lt hpb
        have HX5 : Hid (NS w5 X n) := Lib.hid (hxx.out.up U7)
        have HY := Lib.hid (And.intro y1 (And.intro y2 y3))
        clear r4 U6' U7 hxx y1 y2 y3 U5 r3 U4
        by_cases hd0 : d = 0
        · have hz : (((ln d : Nat) : Int) == 0) = true := by rw [hd0, ln_zero]; rfl
          have HD0 := Lib.hid hd0
          clear hd0
          obtain ⟨g50, g51, g52⟩ := tri r5
          have i50 := Blk.frozen r5 0
          have i51 := Blk.frozen r5 1
          have i52 := Blk.frozen r5 2
          go_wp2_with fail
          have hno := P4.out n d hp HSL.out hpb HD0.out
          rw [HO.out] at hno
          obtain ⟨c0, c1, c2'⟩ := tri (tri_set r5 (.bool false) (.slice none 0 0) (.slice none 0 0))
          refine bodyPost_ret (v := .tuple #[.agg #[.bool false, .slice none 0 0, .slice none 0 0], .bool false]) ?_ rfl (retp_no r5 U8 (Nat.le_refl _) hno _ _ _)
          simp [results, Tryd.results16, go_sem, c0, c1, c2']
        · have hz : (((ln d : Nat) : Int) == 0) = false := beq_eq_false_iff_ne.2 (by have := mt ln_eq_zero.1 hd0; omega)
          have HP := Lib.hid (fq_of (s := neg) HX.out.1 HX.out.2.1 HX5.out HY.out.1 HY.out.2.1 HY.out.2.2 hd0 hln hlb)
          go_wp2_with fail
          have hyes := P5.out n d hp HSL.out hpb hd0
          rw [HO.out] at hyes
          refine (store_q HP.out (by omega)).mono ?_
          rintro e w6 ⟨v5, rfl, hQ, hU5⟩
          obtain ⟨s5', B5, n5, d5, B5', n5', d5', rfl⟩ := hQ.shape
          have HR := Lib.hid hQ
          clear hQ
          have r6 := r5.up hU5
          have U6 := U8.trans hU5
          obtain ⟨g60, g61, g62⟩ := tri r6
          have i60 := Blk.frozen r6 0
          have i61 := Blk.frozen r6 1
          have i62 := Blk.frozen r6 2
          go_wp2_with fail
          obtain ⟨c0, c1, c2'⟩ := tri (tri_set r6 (.bool s5') (.slice B5 n5 d5) (.slice B5' n5' d5'))
          refine bodyPost_ret (v := .tuple #[.agg #[.bool s5', .slice B5 n5 d5, .slice B5' n5' d5'], .bool true]) ?_ rfl (retp_yes hyes r6 HR.out U6 (Nat.le_refl _) _ _ _)
          simp [results, Tryd.results16, go_sem, c0, c1, c2']
    · have hq : decide (slash t < t.length) = false := decide_eq_false hsl
      rw [hq]
      have HSL := Lib.hid hsl
      clear hsl hq
      go_wp2_with fail
      obtain ⟨w4, hw4⟩ : ∃ w4, w4 = w3.alloc (Obj.cells #[.int .u32 1] 25) := ⟨_, rfl⟩
      have U5 : Up w3 w4 := by rw [hw4]; exact (Below.refl _ _).alloc (Nat.le_refl _) _
      have l4 : Blk w4 w3.heap.size 25 #[.int .u32 1] := by rw [hw4]; exact Blk.new _ _ _
      rw [← hw4]
      clear hw4
      have r4 := r3.up U5
      have U8 := U4.trans U5
      have l1 : ln 1 = 1 := by rw [ln, digs_small (by omega) (by omega)]; rfl
      have HP := Lib.hid (fq_of (s := neg) (d := 1) (cy := 1) HX.out.1 HX.out.2.1 (HX.out.2.2.up U5) (by omega) (by omega) (NS.lit1 l4) (by omega) hln (by omega))
      rw [l1] at HP
      have hyes := P2.out n hp HSL.out
      rw [HO.out] at hyes
      refine (store_q HP.out (by omega)).mono ?_
      rintro e w6 ⟨v5, rfl, hQ, hU5⟩
      obtain ⟨s5', B5, n5, d5, B5', n5', d5', rfl⟩ := hQ.shape
      have HR := Lib.hid hQ
      clear hQ
      have r6 := r4.up hU5
      have U6 := U8.trans hU5
      obtain ⟨g60, g61, g62⟩ := tri r6
      have i60 := Blk.frozen r6 0
      have i61 := Blk.frozen r6 1
      have i62 := Blk.frozen r6 2
      go_wp2_with fail
      obtain ⟨c0, c1, c2'⟩ := tri (tri_set r6 (.bool s5') (.slice B5 n5 d5) (.slice B5' n5' d5'))
      refine bodyPost_ret (v := .tuple #[.agg #[.bool s5', .slice B5 n5 d5, .slice B5' n5' d5'], .bool true]) ?_ rfl (retp_yes hyes r6 HR.out U6 (Nat.le_refl _) _ _ _)
      simp [results, Tryd.results16, go_sem, c0, c1, c2']
end Go.Proofs.YtefiapjfiojaoaaDoor
