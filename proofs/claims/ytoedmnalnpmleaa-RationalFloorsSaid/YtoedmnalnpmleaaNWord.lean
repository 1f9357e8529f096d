/-
  The contracts of rational.nat.word, rational.compare.
-/
import Derived.Test.YtoedmnalnpmleaaNBasic
namespace Go.Proofs.Ytoedmnalnpmleaa
open Go.RowKit

/-- A number and whether it fits. -/
def wordV (x : Nat) : Nat × Bool := if x < 18446744073709551616 then (x, true) else (0, false)
theorem wordV_yes {x : Nat} (h : x < 18446744073709551616) : wordV x = (x, true) := by rw [wordV, if_pos h]
theorem wordV_no {x : Nat} (h : 18446744073709551616 ≤ x) : wordV x = (0, false) := by rw [wordV, if_neg (by omega)]
theorem word_big {ns : List Nat} {k w a : Nat} (hk : k < ns.length) (hw : w = nv (ns.drop (k + 1))) (ha : a = ns[k]) (h : (18446744073709551615 - a) / 1000000000 < w) (ha' : a < 1000000000) : 18446744073709551616 ≤ nv ns := by
  have h1 := nv_drop_le ns k (by omega)
  rw [nv_drop ns k hk, ← hw, ← ha] at h1
  omega

set_option maxHeartbeats 1600000 in
theorem word_any (A : Option Addr) (cap x : Nat) (w : World) (hr : NS w A x) (hl : ln x ≤ 17592186044416) :
    Calls Try.prog 43 #[.slice A (ln x) cap] w fun e w' => e = .returned (.tuple #[.int .u64 (wordV x).1, .bool (wordV x).2]) ∧ w = w' := by
  unfold NS at hr
  have hnx := nv_digs x
  have hlt := digs_lt x
  have hln : (digs x).length = ln x := rfl
  obtain ⟨ns, hns⟩ : ∃ ns, ns = digs x := ⟨_, rfl⟩
  rw [← hns] at hr hnx hlt hln
  rw [← hln] at hl ⊢
  clear hns hln
  have HX := Lib.hid hnx
  have HLT := Lib.hid hlt
  clear hnx hlt
  go_enter Try.func43, Try.ntmps43
  go_wp2_with fail
  go_loop [4, 9] (fun v i => ∃ (k n : Nat), k ≤ ns.length ∧ i = .int .i64 k ∧ v = .int .u64 n ∧ n < 18446744073709551616 ∧ n = nv (ns.drop (ns.length - k))) (fun _ i => ns.length - (intOf i).toNat)
  case atStart => exact ⟨0, 0, Nat.zero_le _, rfl, rfl, by omega, by simp [nv]⟩
  case round =>
    obtain ⟨k, n, hk, rfl, rfl, hn, hnv⟩ := hrel
    by_cases hlt : k < ns.length
    · obtain ⟨j, hj⟩ : ∃ j, j = ns.length - 1 - k := ⟨_, rfl⟩
      have hjl : j < ns.length := by omega
      obtain ⟨ad, rfl, had, hcell⟩ := hr.nat hjl
      have ha := HLT.out ns[j] (List.getElem_mem hjl)
      rw [show ns.length - k = j + 1 from by omega] at hnv
      have hbig := word_big hjl hnv rfl
      have hdr := nv_drop ns j hjl
      rw [← hnv] at hdr
      obtain ⟨a, haa⟩ : ∃ a, a = ns[j] := ⟨_, rfl⟩
      rw [← haa] at hcell ha hbig hdr
      have HB := Lib.hid hbig
      have HD := Lib.hid hdr
      have hji : (ns.length : Int) - 1 - k = (j : Int) := by omega
      have HJ := Lib.hid hj
      clear haa hbig hdr hnv hj
      by_cases hov : (18446744073709551615 - a) / 1000000000 < n
      · have hv := wordV_no (HB.out hov ha)
        rw [HX.out] at hv
        have HV := Lib.hid hv
        have hov2 : decide ((18446744073709551615 - (a : Int)) / 1000000000 < n) = true := by simp; omega
        clear hv hov
        go_wp2_with fail
        go_ret2
        rw [HV.out]
        exact ⟨rfl, rfl⟩
      · have hov2 : decide ((18446744073709551615 - (a : Int)) / 1000000000 < n) = false := by simp; omega
        have hs1 : (n : Int) * 1000000000 + a ≤ 18446744073709551615 := by omega
        have hs2 : n * 1000000000 + a < 18446744073709551616 := by omega
        clear hov
        go_wp2_with fail
        go_round
        case rel =>
          refine ⟨k + 1, n * 1000000000 + a, by omega, by go_num, by go_num, hs2, ?_⟩
          rw [show ns.length - (k + 1) = j from by have := HJ.out; omega, HD.out]
          omega
        case measure => simp [intOf]; omega
    · have hk' : k = ns.length := by omega
      rw [hk', Nat.sub_self, List.drop_zero, HX.out] at hnv
      have hv := wordV_yes (x := x) (by omega)
      rw [← hnv] at hv
      have HV := Lib.hid hv
      clear hv
      subst hk'
      subst hnv
      go_wp2_with fail
      go_ret2
      rw [HV.out]
      exact ⟨rfl, rfl⟩

set_option maxHeartbeats 3200000 in
theorem compare_any (A : Option Addr) (cap x : Nat) (B : Option Addr) (dap y : Nat) (w : World) (ha : NS w A x) (hb : NS w B y) (hla : ln x ≤ 17592186044416) (_hlb : ln y ≤ 17592186044416) :
    Calls Try.prog 29 #[.slice A (ln x) cap, .slice B (ln y) dap] w fun e w' => e = .returned (.int .i64 (cmpN x y)) ∧ Up w w' := by
  by_cases hlen : ln x = ln y
  · unfold NS at ha hb
    have hnx := nv_digs x
    have hny := nv_digs y
    have hltx := digs_lt x
    have hlty := digs_lt y
    have hlnx : (digs x).length = ln x := rfl
    have hlny : (digs y).length = ln y := rfl
    obtain ⟨xa, has⟩ : ∃ ns, ns = digs x := ⟨_, rfl⟩
    obtain ⟨xb, hbs⟩ : ∃ ns, ns = digs y := ⟨_, rfl⟩
    rw [← has] at ha hnx hltx hlnx
    rw [← hbs] at hb hny hlty hlny
    rw [← hlnx] at hla hlen ⊢
    rw [← hlny] at hlen ⊢
    clear has hbs hlnx hlny
    have HX := Lib.hid hnx
    have HY := Lib.hid hny
    have HLX := Lib.hid hltx
    have HLY := Lib.hid hlty
    have HE := Lib.hid hlen
    have he1 : xb.length ≤ xa.length := by omega
    have he2 : xa.length ≤ xb.length := by omega
    have hne : (((xa.length : Nat) : Int) != (xb.length : Nat)) = false := by simp; omega
    have hne2 : (xa.length != xb.length) = false := by simp; omega
    clear hnx hny hltx hlty hlen
    go_enter Try.func29, Try.ntmps29
    go_wp2_with fail
    go_loopw [5] (fun i wr => ∃ k : Nat, k ≤ xa.length ∧ i = .int .i64 ((k : Int) - 1) ∧ xa.drop k = xb.drop k ∧ Up w wr) (fun i _ => (intOf i + 1).toNat)
    case atStart => exact ⟨xa.length, Nat.le_refl _, rfl, by rw [List.drop_length, HE.out, List.drop_length], Up.refl _⟩
    case round =>
      obtain ⟨k, hk, rfl, heq, hU⟩ := hrel
      by_cases hk0 : k = 0
      · subst hk0
        rw [List.drop_zero, List.drop_zero] at heq
        have hxy : x = y := by rw [← HX.out, ← HY.out, heq]
        have HC := Lib.hid (cmpN_eq hxy)
        clear heq hxy
        go_wp2_with fail
        go_ret
        rw [HC.out]
        exact ⟨rfl, hU⟩
      · obtain ⟨m, rfl⟩ : ∃ m, k = m + 1 := ⟨k - 1, by omega⟩
        have hma : m < xa.length := by omega
        have hmb : m < xb.length := by omega
        obtain ⟨ad, rfl, had, hca⟩ := (ha.below hU).nat hma
        obtain ⟨ae, rfl, hae, hcb⟩ := (hb.below hU).nat hmb
        have h1 := nv_lt_of HLX.out hma hmb heq
        have h2 := nv_lt_of HLY.out hmb hma heq.symm
        have h3 : xa[m] = xb[m] → xa.drop m = xb.drop m := fun e => by rw [List.drop_eq_getElem_cons hma, List.drop_eq_getElem_cons hmb, e, heq]
        rw [HX.out, HY.out] at h1
        rw [HX.out, HY.out] at h2
        have H1 := Lib.hid h1
        have H2 := Lib.hid h2
        have H3 := Lib.hid h3
        obtain ⟨p, hp⟩ : ∃ p, p = xa[m] := ⟨_, rfl⟩
        obtain ⟨q, hq⟩ : ∃ q, q = xb[m] := ⟨_, rfl⟩
        rw [← hp] at hca H1 H2 H3
        rw [← hq] at hcb H1 H2 H3
        have kk : ((m + 1 : Nat) : Int) - 1 = (m : Int) := by omega
        have ki1 : (0 : Int) ≤ m := by omega
        have ki2 : (m : Int) < xa.length := by omega
        have ki3 : (m : Int) < xb.length := by omega
        have ki4 : ¬ (m : Int) - 1 + 1 < 0 := by omega
        rw [kk]
        clear hp hq h1 h2 h3 heq kk hk0
        rcases Nat.lt_trichotomy p q with hpq | hpq | hpq
        · have HC := Lib.hid (cmpN_lt (H1.out hpq))
          have hd : decide (p < q) = true := by simp; omega
          clear hpq
          go_wp2_with fail
          go_quiet (fail)
          go_wp2_with fail
          go_ret
          rw [HC.out]
          exact ⟨rfl, below_drewN hU _⟩
        · subst hpq
          have HC := Lib.hid (H3.out rfl)
          go_wp2_with fail
          go_quiet (fail)
          go_wp2_with fail
          go_quiet (fail)
          go_wp2_with fail
          go_roundw
          case rel => exact ⟨m, by omega, by go_num, HC.out, below_drewN hU _⟩
          case measure => simp [intOf] <;> omega
        · have HC := Lib.hid (cmpN_gt (H2.out hpq))
          have hd : decide (p < q) = false := by simp; omega
          have hd2 : decide (q < p) = true := by simp; omega
          clear hpq
          go_wp2_with fail
          go_quiet (fail)
          go_wp2_with fail
          go_quiet (fail)
          go_wp2_with fail
          go_ret
          rw [HC.out]
          exact ⟨rfl, below_drewN (below_drewN hU _) _⟩
  · obtain ⟨a, haa⟩ : ∃ a, a = ln x := ⟨_, rfl⟩
    obtain ⟨b, hbb⟩ : ∃ a, a = ln y := ⟨_, rfl⟩
    have h1 : a < b → cmpN x y = -1 := fun h => cmpN_lt (lt_of_ln (by omega))
    have h2 : b < a → cmpN x y = 1 := fun h => cmpN_gt (lt_of_ln (by omega))
    rw [← haa] at hla hlen ⊢
    rw [← hbb] at hlen ⊢
    have H1 := Lib.hid h1
    have H2 := Lib.hid h2
    have hne : ((a : Int) != b) = true := by simp; omega
    have hne2 : (a != b) = true := by simp; omega
    clear h1 h2 haa hbb ha hb
    rcases Nat.lt_or_gt_of_ne hlen with h | h
    · have HC := Lib.hid (H1.out h)
      have hd : decide (a < b) = true := by simp; omega
      clear h hlen
      go_enter Try.func29, Try.ntmps29
      go_wp2_with fail
      go_ret
      rw [HC.out]
      exact ⟨rfl, Up.refl _⟩
    · have HC := Lib.hid (H2.out h)
      have hd : decide (a < b) = false := by simp; omega
      clear h hlen
      go_enter Try.func29, Try.ntmps29
      go_wp2_with fail
      go_ret
      rw [HC.out]
      exact ⟨rfl, Up.refl _⟩
end Go.Proofs.Ytoedmnalnpmleaa
