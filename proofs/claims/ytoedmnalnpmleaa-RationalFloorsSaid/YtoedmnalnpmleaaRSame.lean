/-
  The comparisons and guards of the statements: sameLimbs, SameRat, Rat.
-/
import Derived.Test.YtoedmnalnpmleaaRRound
namespace Go.Proofs.Ytoedmnalnpmleaa
open Go.RowKit

set_option maxHeartbeats 3200000 in
theorem sameLimbs_any (A : Option Addr) (cap x : Nat) (B : Option Addr) (dap y : Nat) (w : World) (ha : NS w A x) (hb : NS w B y) (hla : ln x ≤ 17592186044416) (hlb : ln y ≤ 17592186044416) :
    Calls Try.prog 26 #[.slice A (ln x) cap, .slice B (ln y) dap] w fun e w' => e = .returned (.bool (decide (x = y))) ∧ Up w w' := by
  by_cases hlen : ln x = ln y
  · unfold NS at ha hb
    have hnx := nv_digs x
    have hny := nv_digs y
    have hlnx : (digs x).length = ln x := rfl
    have hlny : (digs y).length = ln y := rfl
    have hxy : digs x = digs y ↔ x = y := ⟨fun h => by rw [← hnx, ← hny, h], fun h => by rw [h]⟩
    obtain ⟨xa, has⟩ : ∃ ns, ns = digs x := ⟨_, rfl⟩
    obtain ⟨xb, hbs⟩ : ∃ ns, ns = digs y := ⟨_, rfl⟩
    rw [← has] at ha hlnx hxy
    rw [← hbs] at hb hlny hxy
    rw [← hlnx] at hla hlen ⊢
    rw [← hlny] at hlb hlen ⊢
    clear has hbs hlnx hlny hnx hny
    have HX := Lib.hid hxy
    have HE := Lib.hid hlen
    have he1 : xb.length ≤ xa.length := by omega
    have he2 : xa.length ≤ xb.length := by omega
    have hne : (((xa.length : Nat) : Int) != (xb.length : Nat)) = false := by simp; omega
    have hne2 : (xa.length != xb.length) = false := by simp; omega
    clear hlen hxy
    go_enter Try.func26, Try.ntmps26
    go_wp2_with fail
    go_loopw [13] (fun i wr => ∃ k : Nat, k ≤ xa.length ∧ i = .int .i64 k ∧ xa.take k = xb.take k ∧ Up w wr) (fun i _ => xa.length - (intOf i).toNat)
    case atStart => exact ⟨0, Nat.zero_le _, rfl, by simp, Up.refl _⟩
    case round =>
      obtain ⟨k, hk, rfl, heq, hU⟩ := hrel
      by_cases hlt : k < xa.length
      · have hmb : k < xb.length := by omega
        obtain ⟨ad, rfl, had, hca⟩ := (ha.below hU).nat hlt
        obtain ⟨ae, rfl, hae, hcb⟩ := (hb.below hU).nat hmb
        have h3 : xa[k] = xb[k] → xa.take (k + 1) = xb.take (k + 1) := fun e => by rw [List.take_succ_eq_append_getElem hlt, List.take_succ_eq_append_getElem hmb, e, heq]
        have h4 : xa[k] ≠ xb[k] → decide (x = y) = false := fun e => by
          rw [decide_eq_false_iff_not]
          intro h
          have := HX.out.2 h
          subst this
          exact e rfl
        have H3 := Lib.hid h3
        have H4 := Lib.hid h4
        obtain ⟨p, hp⟩ : ∃ p, p = xa[k] := ⟨_, rfl⟩
        obtain ⟨q, hq⟩ : ∃ q, q = xb[k] := ⟨_, rfl⟩
        rw [← hp] at hca H3 H4
        rw [← hq] at hcb H3 H4
        have ki1 : (0 : Int) ≤ k := by omega
        have ki2 : (k : Int) < xa.length := by omega
        have ki3 : (k : Int) < xb.length := by omega
        clear hp hq h3 h4 heq
        by_cases hpq : p = q
        · subst hpq
          have HC := Lib.hid (H3.out rfl)
          have hd : (((p : Nat) : Int) != (p : Nat)) = false := by simp
          have hd2 : (p != p) = false := by simp
          clear H4
          go_wp2_with fail
          go_quiet (fail)
          go_wp2_with fail
          go_roundw
          case rel => exact ⟨k + 1, by omega, by go_num, HC.out, below_drewN hU _⟩
          case measure => simp [intOf] <;> omega
        · have HC := Lib.hid (H4.out hpq)
          have hd : (((p : Nat) : Int) != (q : Nat)) = true := by simp; omega
          have hd2 : (p != q) = true := by simp; omega
          clear hpq
          go_wp2_with fail
          go_quiet (fail)
          go_wp2_with fail
          go_ret
          rw [HC.out]
          exact ⟨rfl, below_drewN hU _⟩
      · have hk' : k = xa.length := by omega
        subst hk'
        have hxy : decide (x = y) = true := by
          rw [decide_eq_true_iff]
          refine HX.out.1 ?_
          rw [List.take_length, HE.out, List.take_length] at heq
          exact heq
        have HC := Lib.hid hxy
        clear hxy heq
        go_wp2_with fail
        go_ret
        rw [HC.out]
        exact ⟨rfl, hU⟩
  · have HC : Hid (decide (x = y) = false) := by
      refine Lib.hid ?_
      rw [decide_eq_false_iff_not]
      rintro rfl; exact hlen rfl
    obtain ⟨a, haa⟩ : ∃ a, a = ln x := ⟨_, rfl⟩
    obtain ⟨b, hbb⟩ : ∃ a, a = ln y := ⟨_, rfl⟩
    rw [← haa] at hla hlen ⊢
    rw [← hbb] at hlb hlen ⊢
    have hne : ((a : Int) != b) = true := by simp; omega
    have hne2 : (a != b) = true := by simp; omega
    clear haa hbb ha hb hlen
    go_enter Try.func26, Try.ntmps26
    go_wp2_with fail
    go_ret
    rw [HC.out]
    exact ⟨rfl, Up.refl _⟩

theorem rat_ext (q r : Rat) : q = r ↔ decide (q.num < 0) = decide (r.num < 0) ∧ q.num.natAbs = r.num.natAbs ∧ q.den = r.den := by
  constructor
  · rintro rfl; exact ⟨rfl, rfl, rfl⟩
  · rintro ⟨h1, h2, h3⟩
    rw [← fq_self q, ← fq_self r, h1, h2, h3]
theorem QV.opened {w : World} {s : Bool} {A A' : Option Addr} {n c n' c' : Nat} {q : Rat} (h : QV w (.agg #[.bool s, .slice A n c, .slice A' n' c']) q) :
    s = decide (q.num < 0) ∧ n = ln q.num.natAbs ∧ n' = ln q.den ∧ NS w A q.num.natAbs ∧ NS w A' q.den ∧ ln q.num.natAbs ≤ c ∧ c ≤ 9223372036854775807 ∧ ln q.den ≤ c' ∧ c' ≤ 9223372036854775807 := by
  obtain ⟨C, ca, C', cb, e, h1, h2, h3, h4, h5, h6⟩ := h
  injection e with e
  simp at e
  obtain ⟨rfl, ⟨rfl, rfl, rfl⟩, rfl, rfl, rfl⟩ := e
  exact ⟨rfl, rfl, rfl, h1, h2, h3, h4, h5, h6⟩

set_option maxRecDepth 100000 in
set_option maxHeartbeats 3200000 in
theorem sameRat_q {v v' : Value} {q r : Rat} {w : World} (hf : QV w v q) (hg : QV w v' r) (hB : qs q ≤ 17179869184) (hC : qs r ≤ 17179869184) :
    Calls Try.prog 11 #[v, v'] w fun e w' => e = .returned (.bool (decide (q = r))) ∧ Up w w' := by
  obtain ⟨s, A, n, c, A', n', c', rfl⟩ := hf.shape
  obtain ⟨t, E, m, d, E', m', d', rfl⟩ := hg.shape
  obtain ⟨hs, rfl, rfl, f1, f2, _⟩ := hf.opened
  obtain ⟨ht, rfl, rfl, g1, g2, _⟩ := hg.opened
  have b1 := qs_num q
  have b2 := qs_den q
  have b3 := qs_num r
  have b4 := qs_den r
  have K1 := Lib.hid (fun wx (h : Up w wx) => sameLimbs_any A c q.num.natAbs E d r.num.natAbs wx (f1.up h) (g1.up h) (by omega) (by omega))
  have K2 := Lib.hid (fun wx (h : Up w wx) => sameLimbs_any A' c' q.den E' d' r.den wx (f2.up h) (g2.up h) (by omega) (by omega))
  have hx := rat_ext q r
  rw [← hs, ← ht] at hx
  obtain ⟨x, hxe⟩ : ∃ x, x = q.num.natAbs := ⟨_, rfl⟩
  obtain ⟨y, hye⟩ : ∃ x, x = r.num.natAbs := ⟨_, rfl⟩
  obtain ⟨x', hxe'⟩ : ∃ x, x = q.den := ⟨_, rfl⟩
  obtain ⟨y', hye'⟩ : ∃ x, x = r.den := ⟨_, rfl⟩
  rw [← hxe, ← hye] at K1 hx
  rw [← hxe', ← hye'] at K2 hx
  rw [← hxe, ← hye, ← hxe', ← hye']
  have HX := Lib.hid hx
  clear hx hxe hye hxe' hye' hs ht f1 f2 g1 g2 b1 b2 b3 b4 hB hC hf hg
  have U0 : Up w ((w.alloc (Obj.cells #[.bool s, .slice A (ln x) c, .slice A' (ln x') c'] 24)).alloc (Obj.cells #[.bool t, .slice E (ln y) d, .slice E' (ln y') d'] 24)) := ((Below.refl _ _).alloc (Nat.le_refl _) _).alloc (by simp) _
  have a0 : Blk ((w.alloc (Obj.cells #[.bool s, .slice A (ln x) c, .slice A' (ln x') c'] 24)).alloc (Obj.cells #[.bool t, .slice E (ln y) d, .slice E' (ln y') d'] 24)) w.heap.size 24 #[.bool s, .slice A (ln x) c, .slice A' (ln x') c'] := (Blk.new w _ _).alloc _
  have e0 : Blk ((w.alloc (Obj.cells #[.bool s, .slice A (ln x) c, .slice A' (ln x') c'] 24)).alloc (Obj.cells #[.bool t, .slice E (ln y) d, .slice E' (ln y') d'] 24)) (w.heap.size + 1) 24 #[.bool t, .slice E (ln y) d, .slice E' (ln y') d'] := Blk.new' _ _ _ (by simp)
  obtain ⟨w1, hw1⟩ : ∃ w1, w1 = ((w.alloc (Obj.cells #[.bool s, .slice A (ln x) c, .slice A' (ln x') c'] 24)).alloc (Obj.cells #[.bool t, .slice E (ln y) d, .slice E' (ln y') d'] 24)) := ⟨_, rfl⟩
  rw [← hw1] at U0 a0 e0
  have c0 := tri a0
  have d0 := tri e0
  by_cases hst : s = t
  · have hb : (s == t) = true := by rw [hst]; simp
    by_cases hxy : x = y
    · have hbx : decide (x = y) = true := by simp [hxy]
      rw [hbx] at K1
      have HV : Hid (decide (q = r) = decide (x' = y')) := by
        refine Lib.hid ?_
        rw [decide_eq_decide]
        exact ⟨fun h => (HX.out.1 h).2.2, fun h => HX.out.2 ⟨hst, hxy, h⟩⟩
      clear hst hxy hbx HX
      go_enter Try.func11, Try.ntmps11
      go_wp2_with fail
      rw [← hw1]
      obtain ⟨c0, c1, c2⟩ := c0
      obtain ⟨d0, d1, d2⟩ := d0
      clear hw1
      go_wp2_with fail
      refine (K1.out _ U0).mono ?_
      rintro e w2 ⟨rfl, U2⟩
      have a2 := tri (a0.up U2)
      have e2 := tri (e0.up U2)
      clear c0 c1 c2 d0 d1 d2
      obtain ⟨c0, c1, c2⟩ := a2
      obtain ⟨d0, d1, d2⟩ := e2
      go_wp2_with fail
      refine (K2.out _ (U0.trans U2)).mono ?_
      rintro e w3 ⟨rfl, U3⟩
      go_wp2_with fail
      go_ret
      rw [HV.out]
      exact ⟨rfl, (U0.trans U2).trans U3⟩
    · have hbx : decide (x = y) = false := by simp [hxy]
      rw [hbx] at K1
      have HV : Hid (decide (q = r) = false) := by
        refine Lib.hid ?_
        rw [decide_eq_false_iff_not]
        exact fun h => hxy (HX.out.1 h).2.1
      clear hst hxy hbx HX
      go_enter Try.func11, Try.ntmps11
      go_wp2_with fail
      rw [← hw1]
      obtain ⟨c0, c1, c2⟩ := c0
      obtain ⟨d0, d1, d2⟩ := d0
      clear hw1
      go_wp2_with fail
      refine (K1.out _ U0).mono ?_
      rintro e w2 ⟨rfl, U2⟩
      go_wp2_with fail
      go_ret
      rw [HV.out]
      exact ⟨rfl, U0.trans U2⟩
  · have hb : (s == t) = false := by simpa using hst
    have HV : Hid (decide (q = r) = false) := by
      refine Lib.hid ?_
      rw [decide_eq_false_iff_not]
      exact fun h => hst (HX.out.1 h).1
    clear hst HX
    go_enter Try.func11, Try.ntmps11
    go_wp2_with fail
    go_ret
    rw [HV.out]
    rw [hw1] at U0
    exact ⟨rfl, U0⟩

theorem keepRat_any (s : Bool) (A A' : Option Addr) (n n' c c' : Nat) (w : World) (h1 : n ≤ 9223372036854775807) (h2 : n' ≤ 9223372036854775807) :
    Calls Try.prog 7 #[.agg #[.bool s, .slice A n c, .slice A' n' c']] w fun e w' => e = .returned (.bool (decide (n ≤ 8) && decide (n' ≤ 8))) ∧ Up w w' := by
  by_cases h : n ≤ 8
  · have hd : decide (n ≤ 8) = true := by simp [h]
    have HV : Hid ((decide (n ≤ 8) && decide (n' ≤ 8)) = decide (n' ≤ 8)) := Lib.hid (by rw [hd]; rfl)
    have hd2 : decide ((n : Int) ≤ 8) = decide (n ≤ 8) := by rw [decide_eq_decide]; omega
    rw [hd] at hd2
    clear h
    go_enter Try.func7, Try.ntmps7
    go_wp2_with fail
    go_ret
    rw [HV.out]
    exact ⟨ret_bool (by simp <;> omega), (Below.refl _ _).alloc (Nat.le_refl _) _⟩
  · have hd : decide (n ≤ 8) = false := by simp; omega
    have HV : Hid ((decide (n ≤ 8) && decide (n' ≤ 8)) = false) := Lib.hid (by rw [hd]; rfl)
    have hd2 : decide ((n : Int) ≤ 8) = decide (n ≤ 8) := by rw [decide_eq_decide]; omega
    rw [hd] at hd2
    clear h
    go_enter Try.func7, Try.ntmps7
    go_wp2_with fail
    go_ret
    rw [HV.out]
    exact ⟨rfl, (Below.refl _ _).alloc (Nat.le_refl _) _⟩
end Go.Proofs.Ytoedmnalnpmleaa
