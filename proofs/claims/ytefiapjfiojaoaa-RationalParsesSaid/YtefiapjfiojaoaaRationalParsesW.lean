/-
  RationalParses: for every string the law returns true, walked. Conditions: what the package's variable of the library holds is some int.
-/
import Derived.Test.YtefiapjfiojaoaaFParse
import Derived.Test.YtefiapjfiojaoaaPD
namespace Go.Proofs.Ytefiapjfiojaoaa
open Go Go.RowKit

def PV (w : World) (v : Value) (o : Option Rat) : Prop := match o with
  | some q => QV w v q ∧ qs q ≤ 23
  | none => v = zeroRat
section
variable {w w' : World} {v v' : Value} {o : Option Rat}
theorem PV.up (h : PV w v o) (u : Up w w') : PV w' v o := by
  cases o with
  | none => exact h
  | some q => exact ⟨h.1.up u, h.2⟩
theorem PV.shape (h : PV w v o) : ∃ s A n c A' n' c', v = .agg #[.bool s, .slice A n c, .slice A' n' c'] := by
  cases o with
  | none => exact ⟨_, _, _, _, _, _, _, h⟩
  | some q => exact h.1.shape
theorem RetP.pv {w0 w' : World} {o : Option Rat} {e : Ending} (h : RetP w0 o e w') (hq : ∀ q, o = some q → qs q ≤ 23) : ∃ v, e = .returned (.tuple #[v, .bool o.isSome]) ∧ PV w' v o ∧ Up w0 w' := by
  cases o with
  | none => exact ⟨zeroRat, h.1, rfl, h.2⟩
  | some q =>
    obtain ⟨v, h1, h2, h3⟩ := h
    exact ⟨v, h1, ⟨h2, hq q rfl⟩, h3⟩
end

set_option maxRecDepth 100000 in
set_option maxHeartbeats 3200000 in
theorem sameRat_zero (w : World) : Calls Try.prog 6 #[.agg #[.bool false, .slice none 0 0, .slice none 0 0], .agg #[.bool false, .slice none 0 0, .slice none 0 0]] w fun e w' => e = .returned (.bool true) ∧ Up w w' := by
  have K0 : ∀ wx : World, Calls Try.prog 14 #[.slice none 0 0, .slice none 0 0] wx fun e w' => e = .returned (.bool true) ∧ Up wx w' := fun wx => by
    have h := sameLimbs_any none 0 0 none 0 0 wx NS.zero NS.zero (by rw [ln_zero]; omega) (by rw [ln_zero]; omega)
    rw [ln_zero] at h
    exact h
  have K := Lib.hid K0
  clear K0
  go_enter Try.func6, Try.ntmps6
  go_wp2_with fail
  obtain ⟨w1, hw1⟩ : ∃ w1, w1 = ((w.alloc (Obj.cells #[.bool false, .slice none 0 0, .slice none 0 0] 24)).alloc (Obj.cells #[.bool false, .slice none 0 0, .slice none 0 0] 24)) := ⟨_, rfl⟩
  have U0 : Up w w1 := by rw [hw1]; exact ((Below.refl _ _).alloc (Nat.le_refl _) _).alloc (by simp) _
  have a0 : Blk w1 w.heap.size 24 #[.bool false, .slice none 0 0, .slice none 0 0] := by rw [hw1]; exact (Blk.new w _ _).alloc _
  have e0 : Blk w1 (w.heap.size + 1) 24 #[.bool false, .slice none 0 0, .slice none 0 0] := by rw [hw1]; exact Blk.new' _ _ _ (by simp)
  rw [← hw1]
  clear hw1
  obtain ⟨c0, c1, c2⟩ := tri a0
  obtain ⟨d0, d1, d2⟩ := tri e0
  go_wp2_with fail
  refine (K.out w1).mono ?_
  rintro e w2 ⟨rfl, U2⟩
  have a2 := tri (a0.up U2)
  have e2 := tri (e0.up U2)
  clear c0 c1 c2 d0 d1 d2
  obtain ⟨c0, c1, c2⟩ := a2
  obtain ⟨d0, d1, d2⟩ := e2
  go_wp2_with fail
  refine (K.out w2).mono ?_
  rintro e w3 ⟨rfl, U3⟩
  go_wp2_with fail
  go_ret
  exact ⟨rfl, (U0.trans U2).trans U3⟩
theorem same_pv {w : World} {v v' : Value} {o : Option Rat} (h : PV w v o) (k : PV w v' o) : Calls Try.prog 6 #[v, v'] w fun e w' => e = .returned (.bool true) ∧ Up w w' := by
  cases o with
  | none =>
    have h1 : v = zeroRat := h
    have h2 : v' = zeroRat := k
    rw [h1, h2]
    exact sameRat_zero w
  | some q =>
    have := sameRat_q h.1 k.1 (by have := h.2; omega) (by have := h.2; omega)
    rwa [decide_eq_true rfl] at this
theorem parse_s (s : ByteArray) (w : World) (m : Int) (hs : s.size ≤ 1000) (hm : w.cell? ⟨0, 0, none⟩ = some (.int .i64 m)) : Calls Try.prog 4 #[.string s] w (RetP w (ptext s.data.toList)) := by
  have h := parse_t s.data.toList w m (by rw [← Lib.size_eq]; exact hs) hm
  rwa [show (⟨s.data.toList.toArray⟩ : ByteArray) = s by simp] at h
theorem cell_up {w w' : World} {p : Addr} {v : Value} (h : w.cell? p = some v) (u : Up w w') : w'.cell? p = some v := (u.cell (lt_of_cell' h)).trans h

set_option maxRecDepth 100000 in
set_option maxHeartbeats 6400000 in
theorem RationalParses_walk (s : ByteArray) (w : World) (m : Int) (hm : w.cell? ⟨0, 0, none⟩ = some (.int .i64 m)) :
    Calls Try.prog 3 #[.string s] w fun e w' => e = .returned (.bool true) ∧ Up w w' := by
  by_cases hbig : 500 < s.size
  · have hb : decide (500 < s.size) = true := decide_eq_true hbig
    go_enter Try.func3, Try.ntmps3
    go_wp2_with fail
    go_ret
    exact ⟨rfl, Up.refl _⟩
  have hb : decide (500 < s.size) = false := decide_eq_false hbig
  have HP := Lib.hid (fun (wx : World) hx => (parse_s s wx m (by omega) hx).mono fun e w' h => h.pv (fun q => ptext_qs))
  have HR := Lib.hid (fun (wx : World) => (rParse_t s s.data.toList rfl wx (by rw [← Lib.size_eq]; omega)).mono fun e w' h => h.pv (fun q => ptext_qs))
  obtain ⟨o, ho⟩ : ∃ o, o = ptext s.data.toList := ⟨_, rfl⟩
  rw [← ho] at HP HR
  obtain ⟨ok, hok⟩ : ∃ b, b = o.isSome := ⟨_, rfl⟩
  rw [← hok] at HP HR
  have hbb : (ok == ok) = true := by simp
  have HM := Lib.hid hm
  clear ho hok hm
  go_enter Try.func3, Try.ntmps3
  go_wp2_with fail
  refine (HP.out w HM.out).mono ?_
  rintro e w1 ⟨v1, rfl, p1, U1⟩
  obtain ⟨s1, A1, n1, c1, B1, m1, d1, rfl⟩ := p1.shape
  have V1 := Lib.hid p1
  clear p1
  go_wp2_with fail
  obtain ⟨w2, hw2⟩ : ∃ w2, w2 = w1.alloc (Obj.cells #[.bool s1, .slice A1 n1 c1, .slice B1 m1 d1] 24) := ⟨_, rfl⟩
  have U2 : Up w1 w2 := by rw [hw2]; exact (Below.refl _ _).alloc (Nat.le_refl _) _
  have b2 : Blk w2 w1.heap.size 24 #[.bool s1, .slice A1 n1 c1, .slice B1 m1 d1] := by rw [hw2]; exact Blk.new _ _ _
  rw [← hw2]
  clear hw2
  refine (HR.out w2).mono ?_
  rintro e w3 ⟨v3, rfl, p3, U3⟩
  obtain ⟨s3, A3, n3, c3, B3, m3, d3, rfl⟩ := p3.shape
  have V3 := Lib.hid p3
  replace V1 := Lib.hid ((V1.out.up U2).up U3)
  replace b2 := b2.up U3
  replace U1 := (U1.trans U2).trans U3
  obtain ⟨g1, hg1⟩ : ∃ g, g = w1.heap.size := ⟨_, rfl⟩
  rw [← hg1] at b2 ⊢
  clear p3 U2 U3 hg1
  go_upto_region 5 with fail
  obtain ⟨w4, hw4⟩ : ∃ w4, w4 = w3.alloc (Obj.cells #[.bool s3, .slice A3 n3 c3, .slice B3 m3 d3] 24) := ⟨_, rfl⟩
  have U4 : Up w3 w4 := by rw [hw4]; exact (Below.refl _ _).alloc (Nat.le_refl _) _
  have b4 : Blk w4 w3.heap.size 24 #[.bool s3, .slice A3 n3 c3, .slice B3 m3 d3] := by rw [hw4]; exact Blk.new _ _ _
  rw [← hw4]
  replace V1 := Lib.hid (V1.out.up U4)
  replace V3 := Lib.hid (V3.out.up U4)
  replace b2 := b2.up U4
  replace U1 := U1.trans U4
  obtain ⟨g3, hg3⟩ : ∃ g, g = w3.heap.size := ⟨_, rfl⟩
  rw [← hg3] at b4 ⊢
  clear hw4 U4 hg3
  obtain ⟨x0, x1, x2⟩ := tri b2
  obtain ⟨y0, y1, y2⟩ := tri b4
  go_wp2_with fail
  refine (same_pv V1.out V3.out).mono ?_
  rintro e w5 ⟨rfl, U5⟩
  go_wp2_with fail
  refine (awake01_any w5).mono ?_
  rintro e w6 ⟨rfl, U6⟩
  go_wp2_with fail
  go_ret
  exact ⟨rfl, (U1.trans U5).trans U6⟩
end Go.Proofs.Ytefiapjfiojaoaa
