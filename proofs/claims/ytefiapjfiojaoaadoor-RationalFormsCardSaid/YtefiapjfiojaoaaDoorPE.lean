/-
  PE: FCut, FLimbs, FCmp, FNat, FAdd, FSub, FSmall, FMul, FGuess, FDiv, FGcd, FBuild.
-/
import Derived.Test.YtefiapjfiojaoaaDoorPC
import Derived.WalkLawsBesides
import Derived.Test.YtefiapjfiojaoaaDoorPB
/-
  The document's answer: cut.
-/
namespace Go.Proofs.YtefiapjfiojaoaaDoor
open Go.RowKit

/-- A call returns a natural number in memory of its own. -/
def RetNF (w0 : World) (x : Nat) (e : Ending) (w' : World) : Prop :=
  ∃ A c, e = .returned (.slice A (ln x) c) ∧ ln x ≤ c ∧ c ≤ 9223372036854775807 ∧ NS w' A x ∧ Up w0 w' ∧ ∀ a, A = some a → w0.heap.size ≤ a.block
theorem RetNF.n {w0 w' : World} {x : Nat} {e : Ending} (h : RetNF w0 x e w') : RetN w0 x e w' := by
  obtain ⟨A, c, h1, h2, h3, h4, h5, _⟩ := h
  exact ⟨A, c, h1, h2, h3, h4, h5⟩
theorem fresh_of {B : Nat} {v : Value} {A : Option Addr} {c : Nat} {N : Nat} (h : A = none ∧ c = 0 ∧ v.ownBlock = none ∨ ∃ g, A = some ⟨g, 0, none⟩ ∧ v.ownBlock = some g ∧ B ≤ g ∧ g < N) : ∀ a, A = some a → B ≤ a.block := by
  intro a ha
  rcases h with ⟨h, _⟩ | ⟨g, h, _, h2, _⟩
  · rw [h] at ha; cases ha
  · rw [h] at ha; cases ha; exact h2

set_option maxHeartbeats 3200000 in
theorem cut_fresh (A : Option Addr) (cap : Nat) (ns : List Nat) (w : World) (hr : SI w w.heap.size .u32 A (zs ns)) (hc : ns.length ≤ cap) (hm : cap ≤ 9223372036854775807) (hlt : ∀ a ∈ ns, a < 1000000000) (hlen : ns.length ≤ 17179869184) :
    Calls Tryd.prog 65 #[.slice A ns.length cap] w (RetNF w (nv ns)) := by
  have HLT := Lib.hid hlt
  clear hlt
  go_enter Tryd.func65, Tryd.ntmps65
  go_wp2_with fail
  go_loop [3] (fun i => ∃ k : Nat, k ≤ ns.length ∧ i = .int .i64 k ∧ ∀ j (hj : j < ns.length), k ≤ j → ns[j] = 0) (fun i => (intOf i).toNat)
  case atStart => exact ⟨ns.length, Nat.le_refl _, rfl, fun j hj h => absurd hj (by omega)⟩
  case round =>
    obtain ⟨k, hk, rfl, h0⟩ := hrel
    by_cases hk0 : k = 0
    · subst hk0
      have e := digs_trim HLT.out 0 hk h0 (.inl rfl)
      have hz : nv ns = 0 := by
        have := digs_nil.1 (show digs (nv ns) = [] by simpa using e)
        exact this
      have HZ := Lib.hid hz
      clear h0 e hz
      go_wp2_with (first
        | (at_builtin; go_must (refine wpList_append_ints rfl (.const (.slice none 0 0)) (.tmp 20) 22 rfl w.heap.size 25 .u32 tabU (.slice none 0 0) [] rfl OI.nil_ w.heap.size A cap [] rfl SI.nil_ (by simp) (Nat.le_refl _) ?_; intro v2 w2 hA2)))
      rw [HZ.out]
      obtain ⟨A2, c2, hv2, hc2, hm2, sA2, hO2⟩ := (hA2.own).form
      rw [List.nil_append] at hv2 hc2 sA2
      subst hv2
      go_ret
      exact ⟨A2, c2, by rw [ln_zero]; rfl, by rw [ln_zero]; omega, by simpa [maxLen] using hm2, NS.zero, hA2.below (Up.refl w) OI.nil_ (Nat.le_refl _), fresh_of hO2⟩
    · obtain ⟨m, rfl⟩ : ∃ m, k = m + 1 := ⟨k - 1, by omega⟩
      obtain ⟨ad, rfl, had, hcell⟩ := hr.nat (k := m) (by omega)
      by_cases hz : ns[m] = 0
      · rw [hz] at hcell
        have H0 : Hid (∀ j (hj : j < ns.length), m ≤ j → ns[j] = 0) := fun j hj h => by
          by_cases e : j = m
          · subst e; exact hz
          · exact h0 j hj (by omega)
        clear h0 hz
        have kk : ((m + 1 : Nat) : Int) - 1 = (m : Int) := by omega
        go_wp2_with fail
        go_round
        case rel => exact ⟨m, by omega, rfl, H0.out⟩
        case measure => simp [intOf]
      · have e := digs_trim HLT.out (m + 1) hk h0 (.inr ⟨by omega, by simpa using hz⟩)
        have hs : SI w w.heap.size .u32 (some ad) (zs (digs (nv ns))) := by rw [e, zs_take]; exact hr.take _
        have hl : (zs (digs (nv ns))).length = m + 1 := by rw [zs_length, e, List.length_take]; omega
        obtain ⟨z, hzz⟩ : ∃ z, z = ns[m] := ⟨_, rfl⟩
        rw [← hzz] at hcell hz
        have hb : ((z : Int) == 0) = false := by simp <;> omega
        obtain ⟨ys, hys⟩ : ∃ ys, ys = zs (digs (nv ns)) := ⟨_, rfl⟩
        have HY := Lib.hid hys
        rw [← hys] at hs hl
        have kk : ((m + 1 : Nat) : Int) - 1 = (m : Int) := by omega
        have kc : ((m + 1 : Nat) : Int) ≤ cap := by omega
        clear h0 e hzz hz hys
        go_wp2_with (first
          | (at_builtin; go_must (rw [← hl]; refine wpList_append_ints rfl (.const (.slice none 0 0)) (.tmp 20) 22 rfl w.heap.size 25 .u32 tabU (.slice none 0 0) [] rfl OI.nil_ w.heap.size (some ad) cap ys rfl hs (by simp; omega) (Nat.le_refl _) ?_; intro v2 w2 hA2)))
        obtain ⟨A2, c2, hv2, hc2, hm2, sA2, hO2⟩ := (hA2.own).form
        rw [List.nil_append, HY.out, zs_length] at hv2 hc2
        rw [List.nil_append, HY.out] at sA2
        subst hv2
        go_ret
        exact ⟨A2, c2, rfl, hc2, by simpa [maxLen] using hm2, sA2, hA2.below (Up.refl w) OI.nil_ (Nat.le_refl _), fresh_of hO2⟩
theorem cut_any (A : Option Addr) (cap : Nat) (ns : List Nat) (w : World) (hr : SI w w.heap.size .u32 A (zs ns)) (hc : ns.length ≤ cap) (hm : cap ≤ 9223372036854775807) (hlt : ∀ a ∈ ns, a < 1000000000) (hlen : ns.length ≤ 17179869184) :
    Calls Tryd.prog 65 #[.slice A ns.length cap] w (RetN w (nv ns)) := (cut_fresh A cap ns w hr hc hm hlt hlen).mono fun _ _ h => h.n
end Go.Proofs.YtefiapjfiojaoaaDoor

/-
  The document's answer: limbs.
-/
namespace Go.Proofs.YtefiapjfiojaoaaDoor
open Go.RowKit

set_option maxHeartbeats 1600000 in
theorem limbs_any (n : Nat) (w : World) (hn : n < 18446744073709551616) : Calls Tryd.prog 68 #[.int .u64 n] w (RetN w n) := by
  have hl3 : ln n ≤ 3 := ln_le.2 (by omega)
  go_enter Tryd.func68, Tryd.ntmps68
  go_wp2_with fail
  go_loopw [0, 3] (fun m v wr => ∃ (k : Nat) (xs : List Nat), m = .int .u64 k ∧ k ≤ n ∧ OI wr w.heap.size 25 .u32 v (zs xs) ∧ digs n = xs ++ digs k ∧ Up w wr) (fun m _ _ => (intOf m).toNat)
  case atStart => exact ⟨n, [], rfl, Nat.le_refl _, OI.nil_, rfl, Up.refl _⟩
  case round =>
    obtain ⟨k, xs, rfl, hkn, hO, hd, hU⟩ := hrel
    have hxl : xs.length ≤ 3 := by
      have : (xs ++ digs k).length ≤ 3 := by rw [← hd]; exact hl3
      rw [List.length_append] at this; omega
    have hus := hU.size
    have HO := Lib.hid hO
    by_cases hk : k = 0
    · subst hk
      rw [digs_zero, List.append_nil] at hd
      obtain ⟨A2, c2, hv2, hc2, hm2, sA2, hO2⟩ := HO.out.form
      rw [zs_length] at hv2 hc2
      rw [← hd] at sA2 hv2 hc2
      rw [show (digs n).length = ln n from rfl] at hv2 hc2
      have H2 := Lib.hid sA2
      have H3 := Lib.hid (And.intro hm2 hc2)
      rw [hv2]
      clear hd hO sA2 hO2 hm2 hc2
      go_wp2_with fail
      go_ret
      exact ⟨A2, c2, rfl, H3.out.2, by simpa [maxLen] using H3.out.1, H2.out, hU⟩
    · have hd2 := Lib.hid (digs_step hd hk)
      have hkp : (0 : Int) < k := by omega
      have hk64 : (k : Int) ≤ 18446744073709551615 := by omega
      clear hd hO hk
      go_wp2_with (first
        | (at_builtin; go_must (refine wpList_append_ints rfl (.tmp 6) (.tmp 10) 22 rfl w.heap.size 25 .u32 tabU u3 (zs xs) rfl (HO.out.alloc _) (wr.heap.size + 1) (some ⟨wr.heap.size, 0, none⟩) 1 [(k : Int) % 1000000000] rfl (by exact SI.blk _ (Blk.new wr 25 _) (by simp)) (by simp; omega) (by simp; omega) ?_; intro v2 w2 hA2)))
      go_roundw
      case rel =>
        refine ⟨k / 1000000000, xs ++ [k % 1000000000], by go_num, by omega, ?_, hd2.out, ?_⟩
        · rw [zs_one xs _ (z := (k : Int) % 1000000000) (by omega)]; exact hA2.own
        · exact hA2.below (hU.alloc hus _) (HO.out.alloc _) (by simp; omega)
      case measure => simp [intOf]; omega
end Go.Proofs.YtefiapjfiojaoaaDoor

/-
  The document's answer: natCmp.
-/
namespace Go.Proofs.YtefiapjfiojaoaaDoor
open Go.RowKit

set_option maxHeartbeats 3200000 in
theorem natCmp_any (A : Option Addr) (cap x : Nat) (B : Option Addr) (dap y : Nat) (w : World) (ha : NS w A x) (hb : NS w B y) (hla : ln x ≤ 17592186044416) (_hlb : ln y ≤ 17592186044416) :
    Calls Tryd.prog 66 #[.slice A (ln x) cap, .slice B (ln y) dap] w fun e w' => e = .returned (.int .i64 (cmpN x y)) ∧ Up w w' := by
  by_cases hlen : ln x = ln y
  · unfold NS at ha hb
    have hnx := nv_digs x
    have hny := nv_digs y
    have hltx := digs_lt x
    have hlty := digs_lt y
    have hlnx : (digs x).length = ln x := rfl
    have hlny : (digs y).length = ln y := rfl
    obtain ⟨xa, has⟩ : ∃ ns, ns = digs x := ⟨_, rfl⟩
    obtain ⟨xb, hbs⟩ : ∃ ns, ns = digs y := ⟨_, rfl⟩
    rw [← has] at ha hnx hltx hlnx
    rw [← hbs] at hb hny hlty hlny
    rw [← hlnx] at hla hlen ⊢
    rw [← hlny] at hlen ⊢
    clear has hbs hlnx hlny
    have HX := Lib.hid hnx
    have HY := Lib.hid hny
    have HLX := Lib.hid hltx
    have HLY := Lib.hid hlty
    have HE := Lib.hid hlen
    have he1 : xb.length ≤ xa.length := by omega
    have he2 : xa.length ≤ xb.length := by omega
    have hne : (((xa.length : Nat) : Int) != (xb.length : Nat)) = false := by simp; omega
    have hne2 : (xa.length != xb.length) = false := by simp; omega
    clear hnx hny hltx hlty hlen
    go_enter Tryd.func66, Tryd.ntmps66
    go_wp2_with fail
    go_loopw [5] (fun i wr => ∃ k : Nat, k ≤ xa.length ∧ i = .int .i64 ((k : Int) - 1) ∧ xa.drop k = xb.drop k ∧ Up w wr) (fun i _ => (intOf i + 1).toNat)
    case atStart => exact ⟨xa.length, Nat.le_refl _, rfl, by rw [List.drop_length, HE.out, List.drop_length], Up.refl _⟩
    case round =>
      obtain ⟨k, hk, rfl, heq, hU⟩ := hrel
      by_cases hk0 : k = 0
      · subst hk0
        rw [List.drop_zero, List.drop_zero] at heq
        have hxy : x = y := by rw [← HX.out, ← HY.out, heq]
        have HC := Lib.hid (cmpN_eq hxy)
        clear heq hxy
        go_wp2_with fail
        go_ret
        rw [HC.out]
        exact ⟨rfl, hU⟩
      · obtain ⟨m, rfl⟩ : ∃ m, k = m + 1 := ⟨k - 1, by omega⟩
        have hma : m < xa.length := by omega
        have hmb : m < xb.length := by omega
        obtain ⟨ad, rfl, had, hca⟩ := (ha.below hU).nat hma
        obtain ⟨ae, rfl, hae, hcb⟩ := (hb.below hU).nat hmb
        have h1 := nv_lt_of HLX.out hma hmb heq
        have h2 := nv_lt_of HLY.out hmb hma heq.symm
        have h3 : xa[m] = xb[m] → xa.drop m = xb.drop m := fun e => by rw [List.drop_eq_getElem_cons hma, List.drop_eq_getElem_cons hmb, e, heq]
        rw [HX.out, HY.out] at h1
        rw [HX.out, HY.out] at h2
        have H1 := Lib.hid h1
        have H2 := Lib.hid h2
        have H3 := Lib.hid h3
        obtain ⟨p, hp⟩ : ∃ p, p = xa[m] := ⟨_, rfl⟩
        obtain ⟨q, hq⟩ : ∃ q, q = xb[m] := ⟨_, rfl⟩
        rw [← hp] at hca H1 H2 H3
        rw [← hq] at hcb H1 H2 H3
        have kk : ((m + 1 : Nat) : Int) - 1 = (m : Int) := by omega
        have ki1 : (0 : Int) ≤ m := by omega
        have ki2 : (m : Int) < xa.length := by omega
        have ki3 : (m : Int) < xb.length := by omega
        have ki4 : ¬ (m : Int) - 1 + 1 < 0 := by omega
        rw [kk]
        clear hp hq h1 h2 h3 heq kk hk0
        rcases Nat.lt_trichotomy p q with hpq | hpq | hpq
        · have HC := Lib.hid (cmpN_lt (H1.out hpq))
          have hd : decide (p < q) = true := by simp; omega
          clear hpq
          go_wp2_with fail
          go_quiet (fail)
          go_wp2_with fail
          go_ret
          rw [HC.out]
          exact ⟨rfl, below_drewN hU _⟩
        · subst hpq
          have HC := Lib.hid (H3.out rfl)
          go_wp2_with fail
          go_quiet (fail)
          go_wp2_with fail
          go_quiet (fail)
          go_wp2_with fail
          go_roundw
          case rel => exact ⟨m, by omega, by go_num, HC.out, below_drewN hU _⟩
          case measure => simp [intOf] <;> omega
        · have HC := Lib.hid (cmpN_gt (H2.out hpq))
          have hd : decide (p < q) = false := by simp; omega
          have hd2 : decide (q < p) = true := by simp; omega
          clear hpq
          go_wp2_with fail
          go_quiet (fail)
          go_wp2_with fail
          go_quiet (fail)
          go_wp2_with fail
          go_ret
          rw [HC.out]
          exact ⟨rfl, below_drewN (below_drewN hU _) _⟩
  · obtain ⟨a, haa⟩ : ∃ a, a = ln x := ⟨_, rfl⟩
    obtain ⟨b, hbb⟩ : ∃ a, a = ln y := ⟨_, rfl⟩
    have h1 : a < b → cmpN x y = -1 := fun h => cmpN_lt (lt_of_ln (by omega))
    have h2 : b < a → cmpN x y = 1 := fun h => cmpN_gt (lt_of_ln (by omega))
    rw [← haa] at hla hlen ⊢
    rw [← hbb] at hlen ⊢
    have H1 := Lib.hid h1
    have H2 := Lib.hid h2
    have hne : ((a : Int) != b) = true := by simp; omega
    have hne2 : (a != b) = true := by simp; omega
    clear h1 h2 haa hbb ha hb
    rcases Nat.lt_or_gt_of_ne hlen with h | h
    · have HC := Lib.hid (H1.out h)
      have hd : decide (a < b) = true := by simp; omega
      clear h hlen
      go_enter Tryd.func66, Tryd.ntmps66
      go_wp2_with fail
      go_ret
      rw [HC.out]
      exact ⟨rfl, Up.refl _⟩
    · have HC := Lib.hid (H2.out h)
      have hd : decide (a < b) = false := by simp; omega
      clear h hlen
      go_enter Tryd.func66, Tryd.ntmps66
      go_wp2_with fail
      go_ret
      rw [HC.out]
      exact ⟨rfl, Up.refl _⟩
end Go.Proofs.YtefiapjfiojaoaaDoor

/-
  The document's answer: nat.
-/
namespace Go.Proofs.YtefiapjfiojaoaaDoor
open Go.RowKit

set_option maxHeartbeats 3200000 in
theorem refNat_any (A : Option Addr) (cap : Nat) (ns : List Nat) (w : World) (hr : SI w w.heap.size .u32 A (zs ns)) (h32 : ∀ a ∈ ns, a < 4294967296) (hlen : ns.length ≤ 8589934592) :
    Calls Tryd.prog 50 #[.slice A ns.length cap] w (RetN w (nv ns)) := by
  have H32 := Lib.hid h32
  clear h32
  go_enter Tryd.func50, Tryd.ntmps50
  go_wp2_with fail
  go_loopw [3, 4, 5] (fun v c i wr => ∃ (k : Nat) (cy : Nat) (xs : List Nat), k ≤ ns.length ∧ i = .int .i64 k ∧ c = .int .u64 cy ∧ cy ≤ 4 ∧ OI wr w.heap.size 25 .u32 v (zs xs) ∧ xs.length = k ∧ (∀ a ∈ xs, a < 1000000000) ∧
      nv xs + 1000000000 ^ k * cy = nv (ns.take k) ∧ Up w wr) (fun _ _ i _ => ns.length - (intOf i).toNat)
  case atStart => exact ⟨0, 0, [], Nat.zero_le _, rfl, rfl, by omega, OI.nil_, rfl, by simp, by simp [nv], Up.refl w⟩
  case round =>
    obtain ⟨k, cy, xs, hk, rfl, rfl, hcy, hO, hxl, hxs, hnv, hU⟩ := hrel
    by_cases hlt : k < ns.length
    · obtain ⟨ad, rfl, had, hcell⟩ := (hr.below hU).nat hlt
      have h32 := H32.out ns[k] (List.getElem_mem hlt)
      obtain ⟨z, hz⟩ : ∃ z, z = ns[k] := ⟨_, rfl⟩
      rw [← hz] at hcell h32
      have hst := carry_step _ _ z cy (z + cy) k hnv rfl
      rw [hz, ← nv_take ns k hlt, ← hz] at hst
      have HST := Lib.hid hst
      have HXL := Lib.hid hxl
      have HXS := Lib.hid hxs
      have hcl := carry_lt h32 hcy
      have HO := Lib.hid hO
      have hus := hU.size
      clear hz hst hnv hxl hxs hO
      go_wp2_with (first
        | (at_builtin; go_must (refine wpList_append_ints rfl (.tmp 19) (.tmp 23) 22 rfl w.heap.size 25 .u32 tabU u3 (zs xs) rfl (HO.out.alloc _) (wr.heap.size + 1) (some ⟨wr.heap.size, 0, none⟩) 1 [((cy : Int) + z) % 1000000000] rfl (by exact SI.blk _ (Blk.new wr 25 _) (by simp)) (by have := HXL.out; simp; omega) (by simp; omega) ?_; intro v2 w2 hA2)))
      go_roundw
      case rel =>
        refine ⟨k + 1, (z + cy) / 1000000000, xs ++ [(z + cy) % 1000000000], by omega, by go_num, by go_num, hcl, ?_, by rw [List.length_append, HXL.out]; rfl, ?_, ?_, ?_⟩
        · rw [zs_one xs _ (z := ((cy : Int) + z) % 1000000000) (by omega)]; exact hA2.own
        · intro a ha
          rcases List.mem_append.1 ha with ha | ha
          · exact HXS.out a ha
          · simp at ha; omega
        · rw [nv_snoc, HXL.out]; exact HST.out
        · exact hA2.below (hU.alloc hus _) (HO.out.alloc _) (by simp; omega)
      case measure => simp [intOf]; omega
    · have hk' : k = ns.length := by omega
      subst hk'
      rw [List.take_length] at hnv
      have hus := hU.size
      have HO := Lib.hid hO
      have HXL := Lib.hid hxl
      have hxl1 : xs.length ≤ 8589934592 := by omega
      have HXS := Lib.hid hxs
      have HNV := Lib.hid hnv
      clear hnv hxl hxs hO
      by_cases hc0 : cy = 0
      · subst hc0
        have hnv2 : nv xs = nv ns := by have := HNV.out; simpa using this
        obtain ⟨A2, c2, hv2, hc2, hm2, sA2, hO2⟩ := HO.out.form
        rw [zs_length] at hv2 hc2
        have HT := cut_any A2 c2 xs wr sA2 hc2 (by simpa [maxLen] using hm2) HXS.out (by omega)
        rw [hnv2] at HT
        have H1 := Lib.hid HT
        have hh : decide ((0 : Int) < 0) = false := by simp
        rw [hv2]
        clear HT sA2 hnv2 hO2 hm2 hc2
        go_wp2_with fail
        refine H1.out.mono ?_
        rintro e w2 ⟨A3, c3, rfl, k1, k2, k3, k4⟩
        go_wp2_with fail
        go_ret
        exact ⟨A3, c3, rfl, k1, k2, k3, hU.trans k4⟩
      · have hc1 : decide ((0 : Int) < cy) = true := by simp; omega
        go_wp2_with (first
          | (at_builtin; go_must (refine wpList_append_ints rfl (.tmp 29) (.tmp 32) 22 rfl w.heap.size 25 .u32 tabU u3 (zs xs) rfl (HO.out.alloc _) (wr.heap.size + 1) (some ⟨wr.heap.size, 0, none⟩) 1 [(cy : Int)] rfl (by exact SI.blk _ (Blk.new wr 25 _) (by simp)) (by simp; omega) (by simp; omega) ?_; intro v2 w2 hA2; obtain ⟨A2, c2, hv2, hc2, hm2, sA2, hO2⟩ := hA2.own.form; rw [hv2])))
        rw [← zs_one xs cy rfl] at sA2
        have hall : ∀ a ∈ xs ++ [cy], a < 1000000000 := by
          intro a ha
          rcases List.mem_append.1 ha with ha | ha
          · exact HXS.out a ha
          · simp at ha; omega
        have hnv2 : nv (xs ++ [cy]) = nv ns := by rw [nv_snoc, HXL.out]; exact HNV.out
        have hc3 : (xs ++ [cy]).length ≤ c2 := by simpa [zs] using hc2
        have HT := cut_any A2 c2 (xs ++ [cy]) w2 sA2 hc3 (by simpa [maxLen] using hm2) hall (by simp; omega)
        rw [hnv2] at HT
        rw [List.length_append] at HT
        refine HT.mono ?_
        have hb2 : Up w w2 := hA2.below (hU.alloc hus _) (HO.out.alloc _) (by simp; omega)
        clear HT hnv2 hO2 hm2 hc2 hc3 hA2 sA2 hall
        rintro e w3 ⟨A3, c3, rfl, k1, k2, k3, k4⟩
        go_wp2_with fail
        go_ret
        exact ⟨A3, c3, rfl, k1, k2, k3, hb2.trans k4⟩
end Go.Proofs.YtefiapjfiojaoaaDoor

/-
  The document's answer: natAdd.
-/
namespace Go.Proofs.YtefiapjfiojaoaaDoor
open Go.RowKit

end Go.Proofs.YtefiapjfiojaoaaDoor

/-
  The document's answer: natSub.
-/
namespace Go.Proofs.YtefiapjfiojaoaaDoor
open Go.RowKit

theorem nv_take_set {o : List Nat} {k d : Nat} (h : k < o.length) : nv ((o.set k d).take (k + 1)) = nv (o.take k) + 1000000000 ^ k * d := by
  rw [nv_take _ k (by simpa using h), take_set_self]
  simp

set_option maxHeartbeats 6400000 in
theorem natSub_fresh (A : Option Addr) (cap x : Nat) (B : Option Addr) (dap y : Nat) (w : World) (ha : NS w A x) (hb : NS w B y) (hla : ln x ≤ 17179869184) (hyx : y ≤ x) :
    Calls Tryd.prog 71 #[.slice A (ln x) cap, .slice B (ln y) dap] w (RetNF w (x - y)) := by
  have hlen := ln_mono hyx
  unfold NS at ha hb
  have hnx := nv_digs x
  have hny := nv_digs y
  have hltx := digs_lt x
  have hlty := digs_lt y
  have hlnx : (digs x).length = ln x := rfl
  have hlny : (digs y).length = ln y := rfl
  obtain ⟨xa, hxa⟩ : ∃ ns, ns = digs x := ⟨_, rfl⟩
  obtain ⟨xb, hxb⟩ : ∃ ns, ns = digs y := ⟨_, rfl⟩
  rw [← hxa] at ha hnx hltx hlnx
  rw [← hxb] at hb hny hlty hlny
  rw [← hlnx] at hla hlen ⊢
  rw [← hlny] at hlen ⊢
  clear hxa hxb hlnx hlny
  have HX := Lib.hid hnx
  have HY := Lib.hid hny
  have HLX := Lib.hid hltx
  have HLY := Lib.hid hlty
  have HYX := Lib.hid hyx
  clear hnx hny hltx hlty hyx
  go_enter Tryd.func71, Tryd.ntmps71
  go_wp2_with (first
    | (at_make; go_must (refine wpList_makeB rfl (.tmp 10) (.tmp 10) 22 rfl 25 .u32 tabU .i64 .i64 _ _ xa.length rfl rfl (by omega) (by omega) (by omega) ?_; intro w1 hB1 hU1)))
  obtain ⟨g, hg⟩ : ∃ g, g = w.heap.size := ⟨_, rfl⟩
  rw [← hg] at hB1
  have hgw : w.heap.size ≤ g := by omega
  rw [← hg]
  have HB1 := Lib.hid (BN.zeros hB1)
  clear hB1 hg
  go_loopw [6, 7] (fun c i wr => ∃ (k cy : Nat) (o : List Nat), k ≤ xa.length ∧ i = .int .i64 k ∧ c = .int .u32 cy ∧ cy ≤ 1 ∧ o.length = xa.length ∧ (∀ a ∈ o, a < 1000000000) ∧
      nv (xa.take k) + 1000000000 ^ k * cy = nv (o.take k) + nv (xb.take k) ∧ BN wr g o ∧ Up w wr) (fun _ i _ => xa.length - (intOf i).toNat)
  case atStart =>
    refine ⟨0, 0, List.replicate xa.length 0, Nat.zero_le _, rfl, rfl, by omega, by simp, ?_, by simp [nv], HB1.out, hU1⟩
    intro a ha; simp at ha; omega
  case round =>
    obtain ⟨k, cy, o, hk, rfl, rfl, hcy, hol, hos, hnv, hB, hU⟩ := hrel
    have hus := hU.size
    have HOL := Lib.hid hol
    have HOS := Lib.hid hos
    by_cases hlt : k < xa.length
    · have hp : k < o.length := by omega
      obtain ⟨ad, hAd, had, hcell⟩ := (ha.below hU).nat hlt
      subst hAd
      have ha9 := HLX.out xa[k] (List.getElem_mem hlt)
      have hta := nv_take' xa k
      have htb := nv_take' xb k
      have hco := hB.cell hp
      have hfo := hB.frozen k
      have HBS := Lib.hid hB
      rw [show xa.getD k 0 = xa[k] from by simp [hlt]] at hta
      obtain ⟨z, hz⟩ : ∃ z, z = xa[k] := ⟨_, rfl⟩
      obtain ⟨oz, hoz⟩ : ∃ z, z = o[k] := ⟨_, rfl⟩
      rw [← hz] at hcell ha9 hta
      rw [← hoz] at hco
      have step : ∀ (b d c' : Nat), xb.getD k 0 = b → d < 1000000000 → z + 1000000000 * c' = d + b + cy → Hid (nv (xa.take (k + 1)) + 1000000000 ^ (k + 1) * c' = nv ((o.set k d).take (k + 1)) + nv (xb.take (k + 1))) := by
        intro b d c' hb' hd' he
        refine Lib.hid ?_
        rw [hta, htb, hb', nv_take_set hp]
        exact sub_step hnv he
      have HST := Lib.hid step
      have i1 : (k : Int) < xa.length := by omega
      have i3 : (0 : Int) ≤ k := by omega
      clear hz hoz step hta htb hnv hol hos hB
      by_cases hlb : k < xb.length
      · obtain ⟨ae, hAe, hae, hcb⟩ := (hb.below hU).nat hlb
        subst hAe
        have hb9 := HLY.out xb[k] (List.getElem_mem hlb)
        have hbd : xb.getD k 0 = xb[k] := by simp [hlb]
        obtain ⟨u, hu⟩ : ∃ u, u = xb[k] := ⟨_, rfl⟩
        rw [← hu] at hcb hb9 hbd
        have HBD := Lib.hid hbd
        have hdl : decide (k < xb.length) = true := by simp; omega
        clear hu hbd
        by_cases hge : cy + u ≤ z
        · have hR := HST.out u (z - (cy + u)) 0 HBD.out (by omega) (by omega)
          have HO2 := Lib.hid (set_lt (p := k) (v := z - (cy + u)) HOS.out (by omega))
          have hgd : decide (cy + u ≤ z) = true := by simp; omega
          go_wp2_with fail
          go_roundw
          case rel =>
            refine ⟨k + 1, 0, o.set k (z - (cy + u)), by omega, by go_num, rfl, by omega, by rw [List.length_set]; exact HOL.out, HO2.out, hR.out, ?_, ?_⟩
            · exact HBS.out.set_ k _ (by omega)
            · exact hU.setCell (by simp; omega) _
          case measure => simp [intOf]; omega
        · have hR := HST.out u (z + 1000000000 - (cy + u)) 1 HBD.out (by omega) (by omega)
          have HO2 := Lib.hid (set_lt (p := k) (v := z + 1000000000 - (cy + u)) HOS.out (by omega))
          have hgd : decide (cy + u ≤ z) = false := by simp; omega
          go_wp2_with fail
          go_roundw
          case rel =>
            refine ⟨k + 1, 1, o.set k (z + 1000000000 - (cy + u)), by omega, by go_num, rfl, by omega, by rw [List.length_set]; exact HOL.out, HO2.out, hR.out, ?_, ?_⟩
            · exact HBS.out.set_ k _ (by omega)
            · exact hU.setCell (by simp; omega) _
          case measure => simp [intOf]; omega
      · have hbd : xb.getD k 0 = 0 := by simp [List.getElem?_eq_none (by omega : xb.length ≤ k)]
        have HBD := Lib.hid hbd
        have hdl : decide (k < xb.length) = false := by simp; omega
        clear hbd hlb
        by_cases hge : cy ≤ z
        · have hR := HST.out 0 (z - cy) 0 HBD.out (by omega) (by omega)
          have HO2 := Lib.hid (set_lt (p := k) (v := z - cy) HOS.out (by omega))
          have hgd : decide (cy ≤ z) = true := by simp; omega
          go_wp2_with fail
          go_roundw
          case rel =>
            refine ⟨k + 1, 0, o.set k (z - cy), by omega, by go_num, rfl, by omega, by rw [List.length_set]; exact HOL.out, HO2.out, hR.out, ?_, ?_⟩
            · exact HBS.out.set_ k _ (by omega)
            · exact hU.setCell (by simp; omega) _
          case measure => simp [intOf]; omega
        · have hR := HST.out 0 (z + 1000000000 - cy) 1 HBD.out (by omega) (by omega)
          have HO2 := Lib.hid (set_lt (p := k) (v := z + 1000000000 - cy) HOS.out (by omega))
          have hgd : decide (cy ≤ z) = false := by simp; omega
          go_wp2_with fail
          go_roundw
          case rel =>
            refine ⟨k + 1, 1, o.set k (z + 1000000000 - cy), by omega, by go_num, rfl, by omega, by rw [List.length_set]; exact HOL.out, HO2.out, hR.out, ?_, ?_⟩
            · exact HBS.out.set_ k _ (by omega)
            · exact hU.setCell (by simp; omega) _
          case measure => simp [intOf]; omega
    · have hk' : k = xa.length := by omega
      subst hk'
      rw [List.take_length, HX.out, List.take_of_length_le (by omega), List.take_of_length_le (by omega), HY.out] at hnv
      have hlt2 := nv_lt o hos
      rw [hol] at hlt2
      have hv := sub_end hnv hlt2 HYX.out hcy
      have sA2 := hB.si
      have HT := cut_fresh (some ⟨g, 0, none⟩) xa.length o wr sA2 (by omega) (by omega) hos (by omega)
      rw [hv, hol] at HT
      have H1 := Lib.hid HT
      clear HT hv hlt2 hnv hol hos hB sA2
      go_wp2_with fail
      refine H1.out.mono ?_
      rintro e w2 ⟨A3, c3, rfl, k1, k2, k3, k4, k5⟩
      go_wp2_with fail
      go_ret
      exact ⟨A3, c3, rfl, k1, k2, k3, hU.trans k4, fun a ha => Nat.le_trans hus (k5 a ha)⟩
theorem natSub_any (A : Option Addr) (cap x : Nat) (B : Option Addr) (dap y : Nat) (w : World) (ha : NS w A x) (hb : NS w B y) (hla : ln x ≤ 17179869184) (hyx : y ≤ x) :
    Calls Tryd.prog 71 #[.slice A (ln x) cap, .slice B (ln y) dap] w (RetN w (x - y)) := (natSub_fresh A cap x B dap y w ha hb hla hyx).mono fun _ _ h => h.n
end Go.Proofs.YtefiapjfiojaoaaDoor

/-
  The document's answer: natSmall.
-/
namespace Go.Proofs.YtefiapjfiojaoaaDoor
open Go.RowKit

set_option maxHeartbeats 3200000 in
theorem natSmall_any (A : Option Addr) (cap x m : Nat) (w : World) (ha : NS w A x) (hla : ln x ≤ 17179869184) (hm : m < 1000000000) (hm0 : 0 < m) :
    Calls Tryd.prog 67 #[.slice A (ln x) cap, .int .u64 m] w (RetNW w (x / m) (x % m)) := by
  unfold NS at ha
  have hnx := nv_digs x
  have hltx := digs_lt x
  have hlnx : (digs x).length = ln x := rfl
  obtain ⟨xa, hxa⟩ : ∃ ns, ns = digs x := ⟨_, rfl⟩
  rw [← hxa] at ha hnx hltx hlnx
  rw [← hlnx] at hla ⊢
  clear hxa hlnx
  have HX := Lib.hid hnx
  have HLX := Lib.hid hltx
  have hm1 : (1 : Int) ≤ m := by omega
  clear hnx hltx
  go_enter Tryd.func67, Tryd.ntmps67
  go_wp2_with (first
    | (at_make; go_must (refine wpList_makeB rfl (.tmp 10) (.tmp 10) 22 rfl 25 .u32 tabU .i64 .i64 _ _ xa.length rfl rfl (by omega) (by omega) (by omega) ?_; intro w1 hB1 hU1)))
  obtain ⟨g, hg⟩ : ∃ g, g = w.heap.size := ⟨_, rfl⟩
  rw [← hg] at hB1
  have hgw : w.heap.size ≤ g := by omega
  rw [← hg]
  have HB1 := Lib.hid (BN.zeros hB1)
  clear hB1 hg
  go_loopw [7, 8] (fun c i wr => ∃ (k r : Nat) (o : List Nat), k ≤ xa.length ∧ i = .int .i64 ((k : Int) - 1) ∧ c = .int .u64 r ∧ r < m ∧ o.length = xa.length ∧ (∀ a ∈ o, a < 1000000000) ∧ nv (xa.drop k) = m * nv (o.drop k) + r ∧ BN wr g o ∧ Up w wr) (fun _ i _ => (intOf i + 1).toNat)
  case atStart =>
    refine ⟨xa.length, 0, List.replicate xa.length 0, Nat.le_refl _, rfl, rfl, hm0, by simp, ?_, ?_, HB1.out, hU1⟩
    · intro a ha; simp at ha; omega
    · simp [nv]
  case round =>
    obtain ⟨k, r, o, hk, rfl, rfl, hr, hol, hos, hnv, hB, hU⟩ := hrel
    have hus := hU.size
    by_cases hk0 : k = 0
    · subst hk0
      rw [List.drop_zero, List.drop_zero, HX.out] at hnv
      obtain ⟨hq, hrr⟩ := divs_end hnv hr
      have sA2 := hB.si
      have HT := cut_any (some ⟨g, 0, none⟩) xa.length o wr sA2 (by omega) (by omega) hos (by omega)
      rw [hq, hol] at HT
      have H1 := Lib.hid HT
      have H4 := Lib.hid hrr
      clear HT sA2 hnv hol hos hB hq hrr
      go_wp2_with fail
      refine H1.out.mono ?_
      rintro e w2 ⟨A3, c3, rfl, k1, k2, k3, k4⟩
      go_wp2_with fail
      go_ret2
      rw [← H4.out]
      exact ⟨A3, c3, rfl, k1, k2, k3, hU.trans k4⟩
    · obtain ⟨j, rfl⟩ : ∃ j, k = j + 1 := ⟨k - 1, by omega⟩
      have hja : j < xa.length := by omega
      have hjo : j < o.length := by omega
      obtain ⟨ad, hAd, had, hcell⟩ := (ha.below hU).nat hja
      subst hAd
      have ha9 := HLX.out xa[j] (List.getElem_mem hja)
      have hst := divs_step hja hjo hnv rfl
      have hco := hB.cell hjo
      have hfo := hB.frozen j
      obtain ⟨z, hz⟩ : ∃ z, z = xa[j] := ⟨_, rfl⟩
      rw [← hz] at hcell ha9 hst
      have hlt := divs_lt hr ha9
      have HST := Lib.hid hst
      have HBS := Lib.hid hB
      have HOL2 := Lib.hid hol
      have HOS2 := Lib.hid (set_lt (p := j) (v := (r * 1000000000 + z) / m) hos hlt)
      have HML := Lib.hid (Nat.mod_lt (r * 1000000000 + z) hm0)
      have HQ := Lib.hid (show ((r : Int) * 1000000000 + z) / m = (((r * 1000000000 + z) / m : Nat) : Int) from by simp)
      have HR := Lib.hid (show ((r : Int) * 1000000000 + z) % m = (((r * 1000000000 + z) % m : Nat) : Int) from by simp)
      have q0 : (0 : Int) ≤ ((r : Int) * 1000000000 + z) / m := by rw [HQ.out]; exact Int.natCast_nonneg _
      have q1 : ((r : Int) * 1000000000 + z) / m < 1000000000 := by rw [HQ.out]; exact Int.ofNat_lt.2 hlt
      have kk : ((j + 1 : Nat) : Int) - 1 = (j : Int) := by omega
      have ki1 : (0 : Int) ≤ j := by omega
      have ki2 : (j : Int) < xa.length := by omega
      rw [kk]
      clear hz hst hnv hol hos hB hlt hk0 kk
      go_wp2_with fail
      go_roundw
      case rel =>
        refine ⟨j, (r * 1000000000 + z) % m, o.set j ((r * 1000000000 + z) / m), by omega, by go_num, by rw [HR.out], HML.out, by rw [List.length_set]; exact HOL2.out, HOS2.out, HST.out, HBS.out.set_ j _ HQ.out, hU.setCell (by simp; omega) _⟩
      case measure => simp [intOf] <;> omega
end Go.Proofs.YtefiapjfiojaoaaDoor

/-
  The document's answer: natMul.
-/
namespace Go.Proofs.YtefiapjfiojaoaaDoor
open Go.RowKit

set_option maxHeartbeats 6400000 in
theorem natMul_any (A : Option Addr) (cap x : Nat) (B : Option Addr) (dap y : Nat) (w : World) (ha : NS w A x) (hb : NS w B y) (hla : ln x + ln y ≤ 17179869180) :
    Calls Tryd.prog 70 #[.slice A (ln x) cap, .slice B (ln y) dap] w (RetN w (x * y)) := by
  unfold NS at ha hb
  have hnx := nv_digs x
  have hny := nv_digs y
  have hltx := digs_lt x
  have hlty := digs_lt y
  have hlnx : (digs x).length = ln x := rfl
  have hlny : (digs y).length = ln y := rfl
  obtain ⟨xa, hxa⟩ : ∃ ns, ns = digs x := ⟨_, rfl⟩
  obtain ⟨xb, hxb⟩ : ∃ ns, ns = digs y := ⟨_, rfl⟩
  rw [← hxa] at ha hnx hltx hlnx
  rw [← hxb] at hb hny hlty hlny
  rw [← hlnx] at hla ⊢
  rw [← hlny] at hla ⊢
  clear hxa hxb hlnx hlny
  have HX := Lib.hid hnx
  have HY := Lib.hid hny
  have HLX := Lib.hid hltx
  have HLY := Lib.hid hlty
  clear hnx hny hltx hlty
  have e0 : IntKind.i64.wrap ((xa.length : Int) + xb.length) = (xa.length : Int) + xb.length := IntWalk.i64_in _ (by omega)
  go_enter Tryd.func70, Tryd.ntmps70
  clear e0
  go_wp2_with (first
    | (at_make; go_must (refine wpList_makeB rfl (.tmp 14) (.tmp 14) 22 rfl 25 .u32 tabU .i64 .i64 _ _ (xa.length + xb.length + 1) rfl rfl (by omega) (by omega) (by omega) ?_; intro w1 hB1 hU1)))
  obtain ⟨g, hg⟩ : ∃ g, g = w.heap.size := ⟨_, rfl⟩
  rw [← hg] at hB1
  have hgw : w.heap.size ≤ g := by omega
  rw [← hg]
  have HB1 := Lib.hid (BN.zeros hB1)
  clear hB1 hg
  go_loopw [6] (fun i wr => ∃ (k : Nat) (o : List Nat), k ≤ xa.length ∧ i = .int .i64 k ∧ o.length = xa.length + xb.length + 1 ∧ (∀ a ∈ o, a < 1000000000) ∧ nv o = nv (xa.take k) * y ∧
      (∀ j (h : j < o.length), k + xb.length ≤ j → o[j] = 0) ∧ BN wr g o ∧ Up w wr) (fun i _ => xa.length - (intOf i).toNat)
  case atStart =>
    refine ⟨0, List.replicate (xa.length + xb.length + 1) 0, Nat.zero_le _, rfl, by simp, ?_, ?_, ?_, HB1.out, hU1⟩
    · intro a ha; simp at ha; omega
    · have := nv_zeros [] (xa.length + xb.length + 1); simp [nv] at this; simp [nv, this]
    · intro j hj _; simp
  case round =>
    obtain ⟨k, o, hk, rfl, hol, hos, hnv, hoz, hB, hU⟩ := hrel
    have hus := hU.size
    by_cases hlt : k < xa.length
    · obtain ⟨ad, hAd, had, hcell⟩ := (ha.below hU).nat hlt
      subst hAd
      have ha9 := HLX.out xa[k] (List.getElem_mem hlt)
      have hta := nv_take xa k hlt
      obtain ⟨z, hz⟩ : ∃ z, z = xa[k] := ⟨_, rfl⟩
      rw [← hz] at hcell ha9 hta
      have HTA := Lib.hid hta
      have HOL := Lib.hid hol
      have HOS := Lib.hid hos
      have HNV := Lib.hid hnv
      have HOZ := Lib.hid hoz
      have HBB := Lib.hid hB
      obtain ⟨wo, hwo⟩ : ∃ wo : World, wo = wr := ⟨_, rfl⟩
      rw [← hwo] at hU hus hcell HBB
      rw [← hwo]
      clear hz hta hol hos hnv hoz hB hwo
      go_wp2_with fail
      go_loopw [7, 8] (fun c j wr => ∃ (m cy : Nat) (o : List Nat), m ≤ xb.length + 1 ∧ j = .int .i64 m ∧ c = .int .u64 cy ∧ cy < 1000000000 ∧ o.length = xa.length + xb.length + 1 ∧ (∀ a ∈ o, a < 1000000000) ∧
          nv o + 1000000000 ^ (k + m) * cy = nv (xa.take k) * y + z * (1000000000 ^ k * nv (xb.take m)) ∧ Hid (m = xb.length + 1 → cy = 0) ∧ (∀ t (h : t < o.length), k + max m xb.length ≤ t → o[t] = 0) ∧ BN wr g o ∧ Up w wr) (fun _ j _ => xb.length + 1 - (intOf j).toNat)
      case atStart => exact ⟨0, 0, o, Nat.zero_le _, rfl, rfl, by omega, HOL.out, HOS.out, by simp [nv, HNV.out], Lib.hid (fun _ => rfl), fun t h ht => HOZ.out t h (by omega), HBB.out, hU⟩
      case round =>
        obtain ⟨m, cy, o2, hm, rfl, rfl, hcy, hol, hos, hnv, HK, hoz, hB, hU2⟩ := hrel
        have hus2 := hU2.size
        by_cases hlm : m < xb.length
        · obtain ⟨ae, hAe, hae, hcb⟩ := (hb.below hU2).nat hlm
          subst hAe
          have hca := (hU2.cell (p := ad.add k) (by rw [block_of_add]; exact had)).trans ((hU.cell (p := ad.add k) (by rw [block_of_add]; exact had)).symm.trans hcell)
          have hb9 := HLY.out xb[m] (List.getElem_mem hlm)
          have hp : k + m < o2.length := by omega
          have htb := nv_take xb m hlm
          have hst := mul_step (a := z) (b := xb[m]) hp hnv rfl
          rw [← htb] at hst
          have hco := hB.cell hp
          have ho9 := hos o2[k + m] (List.getElem_mem hp)
          have hfo := hB.frozen (k + m)
          obtain ⟨u, hu⟩ : ∃ u, u = xb[m] := ⟨_, rfl⟩
          rw [← hu] at hcb hb9 hst
          obtain ⟨q, hq⟩ : ∃ q, q = o2[k + m] := ⟨_, rfl⟩
          rw [← hq] at hco ho9 hst
          have hmc := mul_carry ha9 hb9 ho9 hcy
          have HST := Lib.hid hst
          have HBS := Lib.hid hB
          have HMO := Lib.hid (show ((cy : Int) + q + (z : Int) * u) % 1000000000 = (((z * u + q + cy) % 1000000000 : Nat) : Int) from by rw [← Int.natCast_mul]; omega)
          have HOL2 := Lib.hid hol
          have HOS2 := Lib.hid (set_lt (p := k + m) (v := (z * u + q + cy) % 1000000000) hos (by omega))
          have HOZ2 : Hid (∀ t (h : t < (o2.set (k + m) ((z * u + q + cy) % 1000000000)).length), k + max (m + 1) xb.length ≤ t → (o2.set (k + m) ((z * u + q + cy) % 1000000000))[t] = 0) := by
            intro t h ht
            rw [List.getElem_set, if_neg (by omega)]
            exact hoz t (by simpa using h) (by omega)
          have hzu : (0 : Int) ≤ (z : Int) * u ∧ (z : Int) * u ≤ 999999998000000001 := by
            rw [← Int.natCast_mul]; omega
          have HCY := Lib.hid (show (((z * u + q + cy) / 1000000000 : Nat) : Int) = ((cy : Int) + q + (z : Int) * u) / 1000000000 from by rw [← Int.natCast_mul]; omega)
          have hmc2 := hmc.2
          have e2 : (0 : Int) ≤ (k : Int) + m := by omega
          have e3 : ((k : Int) + m).toNat = k + m := by omega
          have e4 : (k : Int) + m < (xa.length : Int) + xb.length + 1 := by omega
          have e5 : IntKind.u64.wrap ((z : Int) * u) = (z : Int) * u := IntWalk.u64_in _ (by omega)
          have e7 : IntKind.u64.wrap ((cy : Int) + q + (z : Int) * u) = (cy : Int) + q + (z : Int) * u := IntWalk.u64_in _ (by omega)
          have i1 : (k : Int) < xa.length := by omega
          have i2 : (m : Int) < xb.length := by omega
          have i3 : (0 : Int) ≤ k := by omega
          have i4 : (0 : Int) ≤ m := by omega
          have hdm : decide (m < xb.length) = true := by simp; omega
          clear hu hq hst htb hnv hol hos hoz hB hmc
          go_wp2_with fail
          go_quiet (fail)
          clear e5 e7
          go_wp2_with fail
          go_roundw
          case rel =>
            refine ⟨m + 1, (z * u + q + cy) / 1000000000, o2.set (k + m) ((z * u + q + cy) % 1000000000), by omega, by go_num, by rw [HCY.out], hmc2, by rw [List.length_set]; exact HOL2.out, HOS2.out, HST.out, Lib.hid (fun h => absurd h (by omega)), HOZ2.out, ?_, ?_⟩
            · exact (HBS.out.drewN _).set_ (k + m) _ HMO.out
            · exact (below_drewN hU2 _).setCell (by simp; omega) _
          case measure => simp [intOf]; omega
        · have hdm : decide (m < xb.length) = false := by simp; omega
          by_cases hc0 : cy = 0
          · subst hc0
            rw [List.take_of_length_le (l := xb) (i := m) (by omega), HY.out] at hnv
            have hrow : nv o2 = nv (xa.take (k + 1)) * y := by
              rw [HTA.out, Nat.add_mul, ← Nat.mul_assoc, Nat.mul_comm z, Nat.mul_assoc] at *
              rw [Nat.mul_zero, Nat.add_zero] at hnv
              rw [hnv]
            have HROW := Lib.hid hrow
            have HBS := Lib.hid hB
            have HOL2 := Lib.hid hol
            have HOS2 := Lib.hid hos
            have HOZ2 : Hid (∀ t (h : t < o2.length), k + 1 + xb.length ≤ t → o2[t] = 0) := Lib.hid (fun t h ht => hoz t h (by omega))
            clear hrow hnv hol hos hoz hB HK
            go_wp2_with fail
            go_roundw
            case rel => exact ⟨k + 1, o2, by omega, by go_num, HOL2.out, HOS2.out, HROW.out, HOZ2.out, HBS.out, hU2⟩
            case measure => simp [intOf]; omega
          · have hmb : m = xb.length := by
              rcases Nat.lt_or_ge xb.length m with h | h
              · exact absurd (HK.out (by omega)) hc0
              · omega
            have hp : k + m < o2.length := by omega
            have h0 := hoz (k + m) hp (by omega)
            have hst := mul_step (a := z) (b := 0) hp hnv rfl
            simp only [h0, Nat.mul_zero, Nat.add_zero, Nat.zero_add, Nat.div_eq_of_lt hcy, Nat.mod_eq_of_lt hcy] at hst
            rw [show nv (xb.take m) = nv (xb.take (m + 1)) from by rw [List.take_of_length_le (l := xb) (i := m) (by omega), List.take_of_length_le (l := xb) (i := m + 1) (by omega)]] at hst
            have hco := hB.cell hp
            rw [h0] at hco
            have hfo := hB.frozen (k + m)
            have HST := Lib.hid hst
            have HBS := Lib.hid hB
            have HOL2 := Lib.hid hol
            have HOS2 := Lib.hid (set_lt (p := k + m) (v := cy) hos hcy)
            have HOZ2 : Hid (∀ t (h : t < (o2.set (k + m) cy).length), k + max (m + 1) xb.length ≤ t → (o2.set (k + m) cy)[t] = 0) := by
              intro t h ht
              rw [List.getElem_set, if_neg (by omega)]
              exact hoz t (by simpa using h) (by omega)
            have e2 : (0 : Int) ≤ (k : Int) + m := by omega
            have e3 : ((k : Int) + m).toNat = k + m := by omega
            have e4 : (k : Int) + m < (xa.length : Int) + xb.length + 1 := by omega
            have hcp : decide ((0 : Int) < cy) = true := by simp; omega
            have hcp2 : decide (0 < cy) = true := by simp; omega
            have hcp3 : 0 < cy := by omega
            have HMO := Lib.hid (show (cy : Int) % 1000000000 = (cy : Int) from by omega)
            have HMD := Lib.hid (show (cy : Int) / 1000000000 = 0 from by omega)
            have HMB := Lib.hid hmb
            have hm2 : m ≤ xb.length := by omega
            clear hst hnv hol hos hoz hB h0 hc0 hmb
            go_wp2_with fail
            go_roundw
            case rel =>
              refine ⟨m + 1, 0, o2.set (k + m) cy, by have := HMB.out; omega, by go_num, by first | rfl | (rw [HMD.out]; rfl), by omega, by rw [List.length_set]; exact HOL2.out, HOS2.out, by rw [Nat.mul_zero, Nat.add_zero]; exact HST.out, Lib.hid (fun _ => rfl), HOZ2.out, ?_, ?_⟩
              · exact HBS.out.set_ (k + m) _ (by first | rfl | exact HMO.out)
              · exact hU2.setCell (by simp; omega) _
            case measure => simp [intOf]; omega
    · have hk' : k = xa.length := by omega
      subst hk'
      rw [List.take_length, HX.out] at hnv
      have sA2 := hB.si
      have HT := cut_any (some ⟨g, 0, none⟩) (xa.length + xb.length + 1) o wr sA2 (by omega) (by omega) hos (by omega)
      rw [hnv, hol] at HT
      have H1 := Lib.hid HT
      clear HT sA2 hnv hol hos hoz hB
      go_wp2_with fail
      refine H1.out.mono ?_
      rintro e w2 ⟨A3, c3, rfl, k1, k2, k3, k4⟩
      go_wp2_with fail
      go_ret
      exact ⟨A3, c3, rfl, k1, k2, k3, hU.trans k4⟩
end Go.Proofs.YtefiapjfiojaoaaDoor

/-
  The document's answer: guess. Whatever the floats give, it is at most 999999999.
-/
namespace Go.Proofs.YtefiapjfiojaoaaDoor
open Go.RowKit

theorem choose_any (q : Question) (w : World) : ∃ j n, (if q.forced = true then Result.ok 0 w else Result.ok (q.cut (w.tape w.drawn q)) w.drew) = Result.ok j (w.drewN n) := by
  split
  · exact ⟨_, 0, rfl⟩
  · exact ⟨_, 1, rfl⟩
theorem float_any {P : Program} (op : BinOp) (hop : op = .add ∨ op = .mul ∨ op = .quo) (t : TypeId) : ∃ (f : Nat → Nat → World → Nat) (g : Nat → Nat → World → Nat),
    ∀ x y w, (binOp op t (.float .f64 x) (.float .f64 y)).run P w = .ok (.float .f64 (f x y w)) (w.drewN (g x y w)) := by
  have h : ∀ x y w, ∃ r n, (binOp op t (.float .f64 x) (.float .f64 y)).run P w = .ok (.float .f64 r) (w.drewN n) := by
    intro x y w
    cases hf : floatBits op .f64 x y with
    | some r => exact ⟨r, 0, run_float_arith w op t .f64 x y r hf⟩
    | none =>
      obtain ⟨j, n, hj⟩ := choose_any (.nanBits .f64 x y) w
      refine ⟨j, n, ?_⟩
      unfold floatBits at hf
      rcases hop with rfl | rfl | rfl <;> simp only at hf <;> simp [binOp, Op.floatArith, hf, choose, Sem.run, Result.andThen] <;> rw [hj]
  exact ⟨fun x y w => (h x y w).choose, fun x y w => (h x y w).choose_spec.choose, fun x y w => (h x y w).choose_spec.choose_spec⟩
theorem u64_wrap (z : Int) : ∃ d : Nat, IntKind.u64.wrap z = (d : Int) ∧ d < 18446744073709551616 := by
  have h := IntKind.wrap_u64 z
  exact ⟨(IntKind.u64.wrap z).toNat, by omega, by omega⟩
theorem toU64_any {P : Program} {src dst : TypeId} (hs : (P.underlying src).isSome = true) (hd : P.underlying dst = some (.int .u64)) : ∃ (f : Nat → World → Nat) (g : Nat → World → Nat),
    ∀ b w, (convert src dst (.float .f64 b)).run P w = .ok (.int .u64 (f b w)) (w.drewN (g b w)) := by
  have h : ∀ b w, ∃ (r n : Nat), (convert src dst (.float .f64 b)).run P w = .ok (.int .u64 r) (w.drewN n) := by
    intro b w
    obtain ⟨u, hs'⟩ := Option.isSome_iff_exists.1 hs
    obtain ⟨j, n, hj⟩ := choose_any (.floatToInt .f64 b .u64) w
    obtain ⟨d, hd1, _⟩ := u64_wrap j
    cases hf : floatToIntVal .f64 b .u64 with
    | some z =>
      have hw := floatToIntVal_wf hf
      simp [Lit.wf, IntKind.min, IntKind.max, IntKind.bits, IntKind.signed] at hw
      exact ⟨z.toNat, 0, by rw [show ((z.toNat : Nat) : Int) = z from by omega]; exact run_convert_float_int w src dst .f64 .u64 b z hs hd hf⟩
    | none =>
      refine ⟨d, n, ?_⟩
      unfold floatToIntVal at hf
      split at hf
      · rename_i m he
        split at hf
        · cases hf
        · rename_i hb
          cases u <;> simp [convert, run_underlying hs', run_underlying hd, Conv.floatToInt, he, hb, choose, Sem.run, Result.andThen] <;> rw [hj] <;> simp [hd1]
      · rename_i he
        cases u <;> simp [convert, run_underlying hs', run_underlying hd, Conv.floatToInt, he, choose, Sem.run, Result.andThen] <;> rw [hj] <;> simp [hd1]
  exact ⟨fun b w => (h b w).choose, fun b w => (h b w).choose_spec.choose, fun b w => (h b w).choose_spec.choose_spec⟩
theorem top_ne {l : List Nat} (h : Can l) {k : Nat} (hk : l.length = k + 1) : l[k] ≠ 0 := by
  intro h0
  apply h.2
  rw [List.getLast?_eq_getElem?, hk]
  simp [hk, h0]

set_option maxRecDepth 100000 in
set_option maxHeartbeats 6400000 in
theorem guess_any (A : Option Addr) (cap x : Nat) (B : Option Addr) (dap y : Nat) (w : World) (ha : NS w A x) (hb : NS w B y) (hla : ln x ≤ 17179869184) (hlb : 2 ≤ ln y) (hlb2 : ln y ≤ 17179869184) :
    Calls Tryd.prog 69 #[.slice A (ln x) cap, .slice B (ln y) dap] w fun e w' => ∃ d : Nat, e = .returned (.int .u64 d) ∧ d ≤ 999999999 ∧ Up w w' := by
  unfold NS at ha hb
  have hcy := can_digs y
  have hltx := digs_lt x
  have hlty := digs_lt y
  have hlnx : (digs x).length = ln x := rfl
  have hlny : (digs y).length = ln y := rfl
  obtain ⟨xa, hxa⟩ : ∃ ns, ns = digs x := ⟨_, rfl⟩
  obtain ⟨xb, hxb⟩ : ∃ ns, ns = digs y := ⟨_, rfl⟩
  rw [← hxa] at ha hltx hlnx
  rw [← hxb] at hb hcy hlty hlny
  rw [← hlnx] at hla ⊢
  rw [← hlny] at hlb hlb2 ⊢
  clear hxa hxb hlnx hlny
  obtain ⟨n, hn⟩ : ∃ n, xb.length = n + 2 := ⟨xb.length - 2, by omega⟩
  obtain ⟨L, hL⟩ : ∃ L, L = xa.length := ⟨_, rfl⟩
  rw [hn]
  rw [← hL] at hla ⊢
  by_cases hlt : L < n + 2
  · clear ha hb hcy hltx hlty
    go_enter Tryd.func69, Tryd.ntmps69
    go_wp2_with fail
    go_ret
    exact ⟨0, rfl, by omega, Up.refl _⟩
  · obtain ⟨ad, rfl, had, c0⟩ := ha.nat (k := n) (by omega)
    obtain ⟨ad', e, _, c1⟩ := ha.nat (k := n + 1) (by omega)
    cases e
    obtain ⟨bd, rfl, hbd, d0⟩ := hb.nat (k := n) (by omega)
    obtain ⟨bd', e, _, d1⟩ := hb.nat (k := n + 1) (by omega)
    cases e
    have b0 := hltx xa[n] (List.getElem_mem _)
    have b1 := hltx xa[n + 1] (List.getElem_mem _)
    have b2 := hlty xb[n] (List.getElem_mem _)
    have b3 := hlty xb[n + 1] (List.getElem_mem _)
    have b4 := top_ne hcy hn
    have HA := Lib.hid ha
    have HX := Lib.hid hltx
    have HL := Lib.hid hL
    obtain ⟨u0, hu0⟩ : ∃ z, z = xa[n]'(by omega) := ⟨_, rfl⟩
    obtain ⟨u1, hu1⟩ : ∃ z, z = xa[n + 1] := ⟨_, rfl⟩
    obtain ⟨v0, hv0⟩ : ∃ z, z = xb[n] := ⟨_, rfl⟩
    obtain ⟨v1, hv1⟩ : ∃ z, z = xb[n + 1] := ⟨_, rfl⟩
    rw [← hu0] at c0 b0
    rw [← hu1] at c1 b1
    rw [← hv0] at d0 b2
    rw [← hv1] at d1 b3 b4
    have hnb : n ≤ 17179869184 := by omega
    clear hu0 hu1 hv0 hv1 hcy hltx hlty ha hb hL hlb hlb2 hn
    have htop : 0 < (v1 : Int) * 1000000000 + v0 := by omega
    have i1 : (n : Int) + 1 < L := by omega
    have i2 : (n : Int) < L := by omega
    have w1 : IntKind.i64.wrap ((n : Int) + 2 - 1) = (n : Int) + 1 := IntWalk.i64_in _ (by omega) |>.trans (by omega)
    have w2 : IntKind.i64.wrap ((n : Int) + 2 - 2) = (n : Int) := IntWalk.i64_in _ (by omega) |>.trans (by omega)
    have t1 : ((n : Int) + 1).toNat = n + 1 := by omega
    have p1 : (0 : Int) ≤ (n : Int) + 1 := by omega
    have d1 : w.cell? ⟨bd.block, bd.off + (n + 1), none⟩ = some (.int .u32 (v1 : Int)) := d1
    have c1 : w.cell? ⟨ad.block, ad.off + (n + 1), none⟩ = some (.int .u32 (u1 : Int)) := c1
    have p2 : (n : Int) + 1 < (n : Int) + 2 := by omega
    have p3 : (n : Int) < (n : Int) + 2 := by omega
    have p0 : (0 : Int) ≤ n := by omega
    by_cases heq : L = n + 2
    · subst heq
      have hq : Hid (∃ d : Nat, ((u1 : Int) * 1000000000 + u0) / ((v1 : Int) * 1000000000 + v0) = (d : Int) ∧ d ≤ 999999999) := by
        refine Lib.hid ⟨(u1 * 1000000000 + u0) / (v1 * 1000000000 + v0), by simp, ?_⟩
        have : (u1 * 1000000000 + u0) / (v1 * 1000000000 + v0) < 1000000000 := by
          rw [Nat.div_lt_iff_lt_mul (by omega)]
          have : 1000000000 * (v1 * 1000000000) ≤ 1000000000 * (v1 * 1000000000 + v0) := by omega
          omega
        omega
      go_enter Tryd.func69, Tryd.ntmps69
      go_wp2_with fail
      go_quiet (fail)
      go_wp2_with fail
      go_quiet (fail)
      go_wp2_with fail
      go_ret
      obtain ⟨d, h1, h2⟩ := hq.out
      exact ⟨d, ret_int h1, h2, below_drewN (Up.refl _) _⟩
    · obtain ⟨ad', e, _, c2⟩ := HA.out.nat (k := n + 2) (by have := HL.out; omega)
      cases e
      have b5 := HX.out (xa[n + 2]'(by have := HL.out; omega)) (List.getElem_mem _)
      obtain ⟨u2, hu2⟩ : ∃ z, z = xa[n + 2]'(by have := HL.out; omega) := ⟨_, rfl⟩
      rw [← hu2] at c2 b5
      clear hu2
      have c2 : w.cell? ⟨ad.block, ad.off + (n + 2), none⟩ = some (.int .u32 (u2 : Int)) := c2
      obtain ⟨fm, gm, hfm⟩ := float_any (P := Tryd.prog) .mul (by simp) 113
      obtain ⟨fa, ga, hfa⟩ := float_any (P := Tryd.prog) .add (by simp) 113
      obtain ⟨fq, gq, hfq⟩ := float_any (P := Tryd.prog) .quo (by simp) 113
      obtain ⟨fu, gu, hfu⟩ := toU64_any (P := Tryd.prog) (src := 113) (dst := 61) (by kernel_rfl) (by kernel_rfl)
      have i3 : (n : Int) + 2 < L := by omega
      have hne : ((L : Int) == (n : Int) + 2) = false := by simp; omega
      go_enter Tryd.func69, Tryd.ntmps69
      go_wp2_with fail
      go_quiet (fail)
      go_wp2_with fail
      go_quiet (fail)
      go_wp2_with fail
      case inl => go_ret; exact ⟨999999999, rfl, by omega, below_drewN (Up.refl _) _⟩
      case inr =>
        go_ret
        obtain ⟨d, hd, _⟩ := u64_wrap _
        rw [hd] at h
        exact ⟨d, ret_int hd, by omega, below_drewN (Up.refl _) _⟩
end Go.Proofs.YtefiapjfiojaoaaDoor

/-
  The document's answer: natDiv.
-/
namespace Go.Proofs.YtefiapjfiojaoaaDoor
open Go.RowKit

theorem OI.lit (w : World) (z : Int) {base : Nat} (hb : base ≤ w.heap.size) : OI (w.alloc (.cells #[.int .u32 z] 25)) base 25 .u32 (.slice (some ⟨w.heap.size, 0, none⟩) 1 1) [z] :=
  World.ownsRow_lit (size := 1) w #[.int .u32 z] 1 hb (by simp [maxLen]) (by simp)

set_option maxHeartbeats 3200000 in
theorem natDiv_lt (A : Option Addr) (cap x : Nat) (B : Option Addr) (dap y : Nat) (w : World) (ha : NS w A x) (hb : NS w B y) (hca : ln x ≤ cap) (hma : cap ≤ 9223372036854775807) (hla : ln x ≤ 17179869184) (hlb : ln y ≤ 17179869184) (hxy : x < y) :
    Calls Tryd.prog 52 #[.slice A (ln x) cap, .slice B (ln y) dap] w (RetNN w 0 x) := by
  have H1 := Lib.hid (natCmp_any A cap x B dap y w ha hb (by omega) (by omega))
  rw [cmpN_lt hxy] at H1
  have hk : decide ((-1 : Int) < 0) = true := by decide
  obtain ⟨k, hkk⟩ : ∃ k, k = (-1 : Int) := ⟨_, rfl⟩
  rw [← hkk] at hk H1
  clear hkk
  have H2 := Lib.hid (fun wx (hu : Up w wx) => cut_any A cap (digs x) wx (ha.up hu) hca hma (digs_lt x) hla)
  rw [nv_digs, show (digs x).length = ln x from rfl] at H2
  obtain ⟨a, haa⟩ : ∃ a, a = ln x := ⟨_, rfl⟩
  obtain ⟨b, hbb⟩ : ∃ a, a = ln y := ⟨_, rfl⟩
  rw [← haa] at H1 H2 ⊢
  rw [← hbb] at H1 ⊢
  clear ha hb hca hma hla hlb hxy haa hbb
  go_enter Tryd.func52, Tryd.ntmps52
  go_wp2_with fail
  refine H1.out.mono ?_
  rintro e w1 ⟨rfl, hU1⟩
  go_wp2_with fail
  refine (H2.out w1 hU1).mono ?_
  rintro e w2 ⟨A2, c2, rfl, k1, k2, k3, k4⟩
  go_wp2_with fail
  go_ret2
  exact ⟨none, 0, A2, c2, by rw [ln_zero]; rfl, by rw [ln_zero]; omega, by omega, k1, k2, NS.zero, k3, hU1.trans k4⟩

set_option maxHeartbeats 3200000 in
theorem natDiv_one (A : Option Addr) (cap x : Nat) (B : Option Addr) (dap y : Nat) (w : World) (ha : NS w A x) (hb : NS w B y) (hla : ln x ≤ 17179869184) (hlb : ln y = 1) (hxy : y ≤ x) :
    Calls Tryd.prog 52 #[.slice A (ln x) cap, .slice B (ln y) dap] w (RetNN w (x / y) (x % y)) := by
  have hy0 : y ≠ 0 := fun h => by rw [h, ln_zero] at hlb; omega
  have hy9 : y < 1000000000 := by have := ln_le.1 (Nat.le_of_eq hlb); simpa using this
  have H1 := Lib.hid (natCmp_any A cap x B dap y w ha hb (by omega) (by omega))
  have H2 := Lib.hid (fun wx (hu : Up w wx) => natSmall_any A cap x y wx (ha.up hu) hla hy9 (by omega))
  have H3 := Lib.hid (fun wx => limbs_any (x % y) wx (by have := Nat.mod_lt x (Nat.pos_of_ne_zero hy0); omega))
  have hc : decide (cmpN x y < 0) = false := by
    simp; unfold cmpN; rw [if_neg (by omega)]; split <;> omega
  obtain ⟨k, hk⟩ : ∃ k, k = cmpN x y := ⟨_, rfl⟩
  rw [← hk] at hc H1
  have hd : digs y = [y] := digs_small hy0 hy9
  have hcell : ∃ ad, B = some ad ∧ ad.block < w.heap.size ∧ w.cell? (ad.add 0) = some (.int .u32 (y : Int)) := by
    unfold NS at hb
    rw [hd] at hb
    exact hb.nat (k := 0) (by simp)
  obtain ⟨ad, rfl, had, hcl⟩ := hcell
  rw [hlb] at H1 ⊢
  obtain ⟨Q, hQ⟩ : ∃ Q, Q = x / y := ⟨_, rfl⟩
  obtain ⟨R, hR⟩ : ∃ Q, Q = x % y := ⟨_, rfl⟩
  rw [← hQ, ← hR] at H2 ⊢
  rw [← hR] at H3
  have hlx : 0 < ln x := Nat.pos_of_ne_zero fun h => by have := ln_eq_zero.1 h; omega
  obtain ⟨a, haa⟩ : ∃ a, a = ln x := ⟨_, rfl⟩
  rw [← haa] at H1 H2 ⊢
  clear ha hb hla hxy haa hd hk hQ hR hlx hy0 hlb
  go_enter Tryd.func52, Tryd.ntmps52
  go_wp2_with fail
  refine H1.out.mono ?_
  rintro e w1 ⟨rfl, hU1⟩
  have hc1 : w1.cell? ad = some (.int .u32 (y : Int)) := (hU1.cell had).trans hcl
  go_wp2_with fail
  refine (H2.out w1 hU1).mono ?_
  rintro e w2 ⟨A2, c2, rfl, k1, k2, k3, k4⟩
  go_wp2_with fail
  refine (H3.out w2).mono ?_
  rintro e w3 ⟨A3, c3, rfl, m1, m2, m3, m4⟩
  go_wp2_with fail
  go_ret2
  exact ⟨A2, c2, A3, c3, rfl, k1, k2, m1, m2, k3.up m4, m3, (hU1.trans k4).trans m4⟩
theorem SI.beside {w : World} {B : Nat} {K : IntKind} {A : Option Addr} {l : List Int} (h : SI w B K A l) {p : Addr} (hf : ∀ a, A = some a → p.block ≠ a.block) (u : Value) : SI (w.setCell p u) B K A l := fun h0 => by
  obtain ⟨ad, e, hl, hc⟩ := h h0
  refine ⟨ad, e, hl, fun j hj => ?_⟩
  rw [World.cell?_setCell_other _ _ _ _ (fun e2 => hf ad e (by rw [e2, block_of_add]))]
  exact hc j hj
theorem long_lt {R y z : Nat} (h : R < y) (hz : z < 1000000000) : R * 1000000000 + z < y * 1000000000 := by omega
theorem long_digit {y d S : Nat} (h : y * d ≤ S) (hS : S < y * 1000000000) : d ≤ 999999999 := by
  have : y * d < y * 1000000000 := by omega
  have := Nat.lt_of_mul_lt_mul_left this
  omega
theorem long_end {y d R S : Nat} (h : S = y * d + R) (hR : R < y) : d = S / y ∧ R = S % y := by
  subst h
  rw [Nat.mul_add_div (by omega), Nat.mul_add_mod, Nat.div_eq_of_lt hR, Nat.mod_eq_of_lt hR]
  omega
theorem cmpN_ge {x y : Nat} : decide (0 ≤ cmpN x y) = decide (y ≤ x) := by
  unfold cmpN
  by_cases h : x < y
  · simp [h]
  · by_cases h2 : y < x
    · simp [h, h2]; omega
    · simp [h, h2]; omega
theorem cmpN_gt0 {x y : Nat} : decide (0 < cmpN x y) = decide (y < x) := by
  unfold cmpN
  by_cases h : x < y
  · simp [h]; omega
  · by_cases h2 : y < x
    · simp [h, h2]
    · simp [h, h2]

set_option maxRecDepth 100000 in
set_option maxHeartbeats 12800000 in
theorem natDiv_long (A : Option Addr) (cap x : Nat) (B : Option Addr) (dap y : Nat) (w : World) (ha : NS w A x) (hb : NS w B y) (hla : ln x ≤ 17179869184) (hlb : 2 ≤ ln y) (hlb2 : ln y ≤ 17179869170) (hxy : y ≤ x) :
    Calls Tryd.prog 52 #[.slice A (ln x) cap, .slice B (ln y) dap] w (RetNN w (x / y) (x % y)) := by
  have HC0 := Lib.hid (natCmp_any A cap x B dap y w ha hb (by omega) (by omega))
  have hc : decide (cmpN x y < 0) = false := by
    simp; unfold cmpN; rw [if_neg (by omega)]; split <;> omega
  obtain ⟨q0, hq0⟩ : ∃ k, k = cmpN x y := ⟨_, rfl⟩
  rw [← hq0] at hc HC0
  clear hq0
  have hy0 : y ≠ 0 := fun h => by rw [h, ln_zero] at hlb; omega
  have HY0 := Lib.hid hy0
  have HB := Lib.hid hb
  have hne1 : ((ln y : Int) == 1) = false := by simp; omega
  have hne2 : (ln y == 1) = false := by simp; omega
  unfold NS at ha
  have hnx := nv_digs x
  have hltx := digs_lt x
  have hlnx : (digs x).length = ln x := rfl
  obtain ⟨xa, hxa⟩ : ∃ ns, ns = digs x := ⟨_, rfl⟩
  rw [← hxa] at ha hnx hltx hlnx
  rw [← hlnx] at hla HC0 ⊢
  clear hxa hlnx hy0 hb
  have HX := Lib.hid hnx
  have HLX := Lib.hid hltx
  clear hnx hltx hxy
  go_enter Tryd.func52, Tryd.ntmps52
  go_wp2_with fail
  refine HC0.out.mono ?_
  rintro e w1 ⟨rfl, hU1⟩
  have hA1 := ha.below hU1
  clear HC0
  go_wp2_with (first
    | (at_make; go_must (refine wpList_makeB rfl (.tmp 34) (.tmp 34) 22 rfl 25 .u32 tabU .i64 .i64 _ _ xa.length rfl rfl (by omega) (by omega) (by omega) ?_; intro w2 hB2 hU2)))
  obtain ⟨g, hg⟩ : ∃ g, g = w1.heap.size := ⟨_, rfl⟩
  rw [← hg] at hB2
  have hgw : w.heap.size ≤ g := by have := hU1.size; omega
  rw [← hg]
  have HB2 := Lib.hid (BN.zeros hB2)
  have hU12 := hU1.trans hU2
  clear hB2 hg hU1 hU2 hA1
  go_loopw [9, 10] (fun rv i wr => ∃ (k R : Nat) (C : Option Addr) (c : Nat) (o : List Nat), k ≤ xa.length ∧ i = .int .i64 ((k : Int) - 1) ∧ rv = .slice C (ln R) c ∧
      Hid (R < y ∧ ln R ≤ c ∧ c ≤ 9223372036854775807 ∧ NS wr C R ∧ o.length = xa.length ∧ (∀ a ∈ o, a < 1000000000) ∧ nv (xa.drop k) = y * nv (o.drop k) + R ∧ BN wr g o) ∧ Up w wr) (fun _ i _ => (intOf i + 1).toNat)
  case atStart =>
    refine ⟨xa.length, 0, none, 0, List.replicate xa.length 0, Nat.le_refl _, rfl, by rw [ln_zero], Lib.hid ⟨Nat.pos_of_ne_zero HY0.out, by rw [ln_zero]; omega, by omega, NS.zero, by simp, ?_, ?_, HB2.out⟩, hU12⟩
    · intro a ha; simp at ha; omega
    · simp [nv]
  case round =>
    obtain ⟨k, R, C, c, o, hk, rfl, rfl, HR, hU⟩ := hrel
    obtain ⟨wo, hwo⟩ : ∃ wo : World, wo = wr := ⟨_, rfl⟩
    rw [← hwo] at HR hU ⊢
    clear hwo
    have hus := hU.size
    by_cases hk0 : k = 0
    · subst hk0
      obtain ⟨r1, r2, r3, r4, r5, r6, r7, r8⟩ := HR.out
      rw [List.drop_zero, List.drop_zero, HX.out] at r7
      obtain ⟨hq, hrr⟩ := divs_end r7 r1
      have HT := cut_any (some ⟨g, 0, none⟩) xa.length o wo r8.si (by omega) (by omega) r6 (by omega)
      rw [hq, r5] at HT
      have H1 := Lib.hid HT
      have H4 := Lib.hid hrr
      clear HT hq hrr r1 r2 r3 r4 r5 r6 r7 r8
      go_wp2_with fail
      refine H1.out.mono ?_
      rintro e w2 ⟨A3, c3, rfl, k1, k2, k3, k4⟩
      go_wp2_with fail
      go_ret2
      rw [← H4.out]
      exact ⟨A3, c3, C, c, rfl, k1, k2, HR.out.2.1, HR.out.2.2.1, k3, HR.out.2.2.2.1.up k4, hU.trans k4⟩
    · obtain ⟨j, rfl⟩ : ∃ j, k = j + 1 := ⟨k - 1, by omega⟩
      have hja : j < xa.length := by omega
      obtain ⟨ad, hAd, had, hcell⟩ := (ha.below hU).nat hja
      subst hAd
      have ha9 := HLX.out xa[j] (List.getElem_mem hja)
      obtain ⟨r1, r2, r3, r4, r5, r6, r7, r8⟩ := HR.out
      have hst := divs_step hja (o := o) (by omega) r7 rfl
      obtain ⟨z, hz⟩ : ∃ z, z = xa[j] := ⟨_, rfl⟩
      rw [← hz] at hcell ha9 hst
      obtain ⟨S, hS⟩ : ∃ S, S = R * 1000000000 + z := ⟨_, rfl⟩
      rw [← hS] at hst
      have HST := Lib.hid hst
      have hSy : S < y * 1000000000 := by rw [hS]; exact long_lt r1 ha9
      have HSY := Lib.hid hSy
      have hlS : ln S ≤ ln y + 2 := Nat.le_trans (ln_mono (Nat.le_of_lt hSy)) (Nat.le_trans (ln_mul _ _) (Nat.add_le_add_left (ln_le.2 (by decide)) _))
      have hlR : ln R ≤ ln y := ln_mono (Nat.le_of_lt r1)
      have hSn : Hid (nv (z :: digs R) = S) := Lib.hid (by rw [nv, nv_digs, hS]; omega)
      have hs9 : Hid (∀ a ∈ z :: digs R, a < 1000000000) := Lib.hid (by
        intro a ha
        rcases List.mem_cons.1 ha with rfl | ha
        · exact ha9
        · exact digs_lt R a ha)
      have hsR : SI wo wo.heap.size .u32 C (zs (digs R)) := r4
      have hlen : (zs (digs R)).length = ln R := by rw [zs_length]; rfl
      obtain ⟨ys, hys⟩ : ∃ ys, ys = zs (digs R) := ⟨_, rfl⟩
      have HYS := Lib.hid hys
      rw [← hys] at hsR hlen
      have HL := Lib.hid (And.intro r5 r6)
      have HBO := Lib.hid r8
      have kk : ((j + 1 : Nat) : Int) - 1 = (j : Int) := by omega
      have ki1 : (0 : Int) ≤ j := by omega
      have ki2 : (j : Int) < xa.length := by omega
      rw [kk]
      clear hz hst r1 r2 r3 r4 r5 r6 r7 r8 hys hS hSy HR hk0 kk
      go_wp2_with (first
        | (at_builtin; go_must (rw [← hlen]; refine wpList_append_ints rfl (.tmp 47) (.tmp 48) 22 rfl wo.heap.size 25 .u32 tabU (.slice (some ⟨wo.heap.size, 0, none⟩) 1 1) [(z : Int)] rfl (OI.lit wo z (Nat.le_refl _)) (wo.alloc (Obj.cells #[.int .u32 z] 25)).heap.size C c ys rfl ((hsR.below ((Below.refl _ _).alloc (Nat.le_refl _) _)).more (by simp)) (by simp; omega) (by simp) ?_; intro v2 w2 hA2)))
      obtain ⟨A2, c2, hv2, hc2, hm2, sA2, hO2⟩ := (hA2.own).form
      have U2 : Up wo w2 := hA2.below ((Below.refl _ _).alloc (Nat.le_refl _) _) (OI.lit wo z (Nat.le_refl _)) (by simp)
      have hz2 : ([(z : Int)] ++ ys) = zs (z :: digs R) := by rw [HYS.out]; rfl
      rw [hz2, zs_length] at hv2 hc2
      rw [hz2] at sA2
      have HT := cut_any A2 c2 (z :: digs R) w2 sA2 hc2 (by simpa [maxLen] using hm2) hs9.out (by rw [List.length_cons]; show ln R + 1 ≤ _; omega)
      rw [hSn.out] at HT
      rw [hv2]
      have HT2 := Lib.hid HT
      clear hA2 hv2 hc2 hm2 sA2 hO2 hz2 HT hSn hs9 HYS hlen hsR hcell
      refine HT2.out.mono ?_
      rintro e w3 ⟨A3, c3, rfl, k1, k2, k3, k4⟩
      have U3 := U2.trans k4
      have HK := Lib.hid (And.intro k1 k2)
      have HG := Lib.hid (guess_any A3 c3 S B dap y w3 k3 (HB.out.up (hU.trans U3)) (by omega) hlb (by omega))
      clear U2 k1 k2 k4 HT2
      go_wp2_with fail
      refine HG.out.mono ?_
      rintro e w4 ⟨d0, rfl, hd0, hU4⟩
      have U4 := U3.trans hU4
      have K4 := k3.up hU4
      clear U3 hU4 k3 HG
      go_wp2_with fail
      have hUo := hU
      go_loopw [11] (fun dv wx => ∃ d : Nat, dv = .int .u64 d ∧ d ≤ 999999999 ∧ Up w4 wx) (fun dv _ => (intOf dv).toNat)
      case atStart => exact ⟨d0, rfl, hd0, Up.refl _⟩
      case round =>
        obtain ⟨d, rfl, hd, hUx⟩ := hrel
        have hld : ln d ≤ 1 := ln_le.2 (by omega)
        obtain ⟨M, hM⟩ : ∃ M, M = y * d := ⟨_, rfl⟩
        have hlM : ln M ≤ ln y + 1 := by rw [hM]; exact Nat.le_trans (ln_mul y d) (by omega)
        have HM := Lib.hid hM
        have UX := U4.trans hUx
        have KX := K4.up hUx
        rcases (show d = 0 ∨ (0 < d ∧ S < M) ∨ (0 < d ∧ M ≤ S) by omega) with h | ⟨h, hms⟩ | ⟨h, hms⟩
        case' inl =>
          have hz1 : decide ((0 : Int) < d) = false := by simp; omega
          have hz2 : decide (0 < d) = false := by simp; omega
          have hms : M ≤ S := by rw [hM, h]; simp
          have HMS := Lib.hid hms
          have UY := UX
          have KY := KX
          clear h hM hms
          go_wp2_with fail
        case inr.inl =>
          have hz1 : decide ((0 : Int) < d) = true := by simp; omega
          have hz2 : decide (0 < d) = true := by simp; omega
          have hz3 : (0 : Int) < d := by omega
          have hq : decide (0 < cmpN M S) = true := by rw [cmpN_gt0]; simpa using hms
          have hc1 := Lib.hid (fun (A5 : Option Addr) (c5 : Nat) (wx : World) (hu : Up wr wx) (hn : NS wx A5 d) => natMul_any B dap y A5 c5 d wx (HB.out.up ((hU.trans UX).trans hu)) hn (by omega))
          have hc2 := Lib.hid (fun (A6 : Option Addr) (c6 : Nat) (wx : World) (hu : Up wr wx) (hn : NS wx A6 M) => natCmp_any A6 c6 M A3 c3 S wx hn (KX.up hu) (by omega) (by omega))
          obtain ⟨q, hqe⟩ : ∃ q, q = cmpN M S := ⟨_, rfl⟩
          rw [← hqe] at hq hc2
          rw [← hM] at hc1
          clear h hM hms hqe
          go_wp2_with fail
          refine (limbs_any d _ (by omega)).mono ?_
          rintro e w5 ⟨A5, c5, rfl, l1, l2, l3, l4⟩
          go_wp2_with fail
          refine (hc1.out A5 c5 w5 l4 l3).mono ?_
          rintro e w6 ⟨A6, c6, rfl, m1, m2, m3, m4⟩
          go_wp2_with fail
          refine (hc2.out A6 c6 w6 (l4.trans m4) m3).mono ?_
          rintro e w7 ⟨rfl, n4⟩
          go_wp2_with fail
          go_roundw
          case rel => exact ⟨d - 1, by go_num, by omega, hUx.trans ((l4.trans m4).trans n4)⟩
          case measure => simp [intOf] <;> omega
        case' inr.inr =>
          have hz1 : decide ((0 : Int) < d) = true := by simp; omega
          have hz2 : decide (0 < d) = true := by simp; omega
          have hz3 : (0 : Int) < d := by omega
          have HMS := Lib.hid hms
          have hq : decide (0 < cmpN M S) = false := by rw [cmpN_gt0]; simpa using hms
          have hc1 := Lib.hid (fun (A5 : Option Addr) (c5 : Nat) (wx : World) (hu : Up wr wx) (hn : NS wx A5 d) => natMul_any B dap y A5 c5 d wx (HB.out.up ((hU.trans UX).trans hu)) hn (by omega))
          have hc2 := Lib.hid (fun (A6 : Option Addr) (c6 : Nat) (wx : World) (hu : Up wr wx) (hn : NS wx A6 M) => natCmp_any A6 c6 M A3 c3 S wx hn (KX.up hu) (by omega) (by omega))
          obtain ⟨q, hqe⟩ : ∃ q, q = cmpN M S := ⟨_, rfl⟩
          rw [← hqe] at hq hc2
          rw [← hM] at hc1
          clear h hM hms hqe
          go_wp2_with fail
          refine (limbs_any d _ (by omega)).mono ?_
          rintro e w5 ⟨A5, c5, rfl, l1, l2, l3, l4⟩
          go_wp2_with fail
          refine (hc1.out A5 c5 w5 l4 l3).mono ?_
          rintro e w6 ⟨A6, c6, rfl, m1, m2, m3, m4⟩
          go_wp2_with fail
          refine (hc2.out A6 c6 w6 (l4.trans m4) m3).mono ?_
          rintro e w7 ⟨rfl, n4⟩
          have UY := UX.trans ((l4.trans m4).trans n4)
          have KY := KX.up ((l4.trans m4).trans n4)
          clear l1 l2 l3 l4 m1 m2 m3 m4 n4 hc1 hc2
          go_wp2_with fail
        all_goals
          refine (limbs_any d _ (by omega)).mono ?_
          rintro e w8 ⟨A8, c8, rfl, l1, l2, l3, l4⟩
          have U8 := UY.trans l4
          have HM8 := Lib.hid (natMul_any B dap y A8 c8 d w8 (HB.out.up (hU.trans U8)) l3 (by omega))
          rw [← HM.out] at HM8
          go_wp2_with fail
          refine HM8.out.mono ?_
          rintro e w9 ⟨A9, c9, rfl, m1, m2, m3, m4⟩
          have U9 := U8.trans m4
          have HS9 := Lib.hid (natSub_fresh A3 c3 S A9 c9 M w9 ((KY.up l4).up m4) m3 (by omega) HMS.out)
          clear KY l1 l2 l3 l4 m1 m2 m3 m4
          go_wp2_with fail
          refine HS9.out.mono ?_
          rintro e w10 ⟨A10, c10, rfl, n1, n2, n3, n4, n5⟩
          have U10 := U9.trans n4
          have hR10 : S = M + (S - M) := by have := HMS.out; omega
          rw [HM.out] at hR10
          have HI := Lib.hid (And.intro hR10 (And.intro n1 (And.intro n2 (And.intro n3 (fun a ha => Nat.le_trans U9.size (n5 a ha) : ∀ a, A10 = some a → wo.heap.size ≤ a.block)))))
          clear n1 n2 n3 n4 n5 hR10 HS9 HM8 UX KX UY U8 U9
          rw [← HM.out] at HI
          obtain ⟨R1, hR1⟩ : ∃ R1, R1 = S - M := ⟨_, rfl⟩
          rw [← hR1] at HI ⊢
          rw [HM.out] at HI
          clear hR1 HM HMS
          go_wp2_with fail
          go_loopw [9, 11] (fun rv dv wx => ∃ (C : Option Addr) (c R d : Nat), rv = .slice C (ln R) c ∧ dv = .int .u64 d ∧ Hid (S = y * d + R ∧ ln R ≤ c ∧ c ≤ 9223372036854775807 ∧ NS wx C R ∧ ∀ a, C = some a → wo.heap.size ≤ a.block) ∧ Up wo wx) (fun rv _ wx => readN wx rv)
          case atStart => exact ⟨A10, c10, R1, d, rfl, rfl, HI, U10⟩
          case round =>
            obtain ⟨C, c, R2, d, rfl, rfl, HR, hU⟩ := hrel
            have UW := hUo.trans hU
            have hS2 := HR.out.1
            have hd2 := long_digit (by rw [hS2]; exact Nat.le_add_right _ _ : y * d ≤ S) HSY.out
            have hlR2 : ln R2 ≤ ln y + 2 := Nat.le_trans (ln_mono (by rw [hS2]; exact Nat.le_add_left _ _)) hlS
            have HC := Lib.hid (natCmp_any C c R2 B dap y wr HR.out.2.2.2.1 (HB.out.up UW) (by omega) (by omega))
            have hq : decide (0 ≤ cmpN R2 y) = decide (y ≤ R2) := cmpN_ge
            obtain ⟨q, hqe⟩ : ∃ q, q = cmpN R2 y := ⟨_, rfl⟩
            rw [← hqe] at hq HC
            by_cases hge : y ≤ R2
            · rw [decide_eq_true hge] at hq
              have HS1 := Lib.hid (fun (wx : World) (hu : Up wr wx) => natSub_fresh C c R2 B dap y wx (HR.out.2.2.2.1.up hu) (HB.out.up (UW.trans hu)) (by omega) hge)
              have hS3 : S = y * (d + 1) + (R2 - y) := by rw [Nat.mul_add, Nat.mul_one]; omega
              have hd3 := long_digit (by rw [hS3]; exact Nat.le_add_right _ _ : y * (d + 1) ≤ S) HSY.out
              have HS3 := Lib.hid hS3
              have HGE := Lib.hid hge
              clear hqe hge hS2 hS3
              go_wp2_with fail
              refine HC.out.mono ?_
              rintro e w11 ⟨rfl, n4⟩
              go_wp2_with fail
              refine (HS1.out w11 n4).mono ?_
              rintro e w12 ⟨A12, c12, rfl, m1, m2, m3, m4, m5⟩
              go_wp2_with fail
              go_roundw
              case rel => exact ⟨A12, c12, R2 - y, d + 1, rfl, by go_num, Lib.hid ⟨HS3.out, m1, m2, m3, fun a ha => Nat.le_trans (Nat.le_trans hU.size n4.size) (m5 a ha)⟩, hU.trans (n4.trans m4)⟩
              case measure =>
                have e1 := readN_eq (c := c12) m3
                have e2 := readN_eq (c := c) HR.out.2.2.2.1
                exact (by rw [e1, e2]; have := HGE.out; have := HY0.out; omega : readN w12 (.slice A12 (ln (R2 - y)) c12) < readN wr (.slice C (ln R2) c))
            · rw [decide_eq_false hge] at hq
              obtain ⟨E1, E2⟩ := long_end hS2 (by omega)
              have HE1 := Lib.hid E1
              have HE2 := Lib.hid E2
              have HLT := Lib.hid (show R2 < y by omega)
              have hj : j < o.length := by rw [HL.out.1]; exact hja
              clear hqe hge hS2 E1 E2
              go_wp2_with fail
              refine HC.out.mono ?_
              rintro e w11 ⟨rfl, n4⟩
              have U11 := hU.trans n4
              have hb11 := HBO.out.up U11
              have hco := hb11.cell hj
              have hfo := hb11.frozen j
              have HB11 := Lib.hid hb11
              have hj2 : (j : Int) < xa.length := by omega
              have hj0 : (0 : Int) ≤ j := by omega
              clear hb11
              go_wp2_with fail
              go_roundw
              case rel =>
                refine ⟨j, R2, C, c, o.set j d, by omega, by go_num, rfl, Lib.hid ⟨HLT.out, HR.out.2.1, HR.out.2.2.1, ?_, by rw [List.length_set]; exact HL.out.1, set_lt HL.out.2 (by omega), ?_, HB11.out.set_ j _ rfl⟩, ?_⟩
                · have hn := HR.out.2.2.2.1.up n4
                  unfold NS at hn ⊢
                  exact (SI.beside hn (fun a ha => Nat.ne_of_lt (Nat.lt_of_lt_of_le HBO.out.lt (HR.out.2.2.2.2 a ha))) _).more (by simp)
                · rw [HE1.out, HE2.out]; exact HST.out
                · exact (hUo.trans U11).setCell (by simp; omega) _
              case measure => simp [intOf] <;> omega
end Go.Proofs.YtefiapjfiojaoaaDoor

/-
  The document's answer: natGcd.
-/
namespace Go.Proofs.YtefiapjfiojaoaaDoor
open Go.RowKit

theorem natDiv_any (A : Option Addr) (cap x : Nat) (B : Option Addr) (dap y : Nat) (w : World) (ha : NS w A x) (hb : NS w B y) (hca : ln x ≤ cap) (hma : cap ≤ 9223372036854775807) (hla : ln x ≤ 17179869184) (hlb : ln y ≤ 17179869170) (hy : y ≠ 0) :
    Calls Tryd.prog 52 #[.slice A (ln x) cap, .slice B (ln y) dap] w (RetNN w (x / y) (x % y)) := by
  by_cases h : x < y
  · rw [Nat.div_eq_of_lt h, Nat.mod_eq_of_lt h]
    exact natDiv_lt A cap x B dap y w ha hb hca hma hla (by omega) h
  · have hp : 0 < ln y := Nat.pos_of_ne_zero fun h => hy (ln_eq_zero.1 h)
    by_cases h1 : ln y = 1
    · exact natDiv_one A cap x B dap y w ha hb hla h1 (by omega)
    · exact natDiv_long A cap x B dap y w ha hb hla (by omega) hlb (by omega)

set_option maxHeartbeats 6400000 in
theorem natGcd_any (A : Option Addr) (cap x : Nat) (B : Option Addr) (dap y : Nat) (w : World) (ha : NS w A x) (hb : NS w B y) (hca : ln x ≤ cap) (hcb : ln y ≤ dap) (hma : cap ≤ 9223372036854775807) (hmb : dap ≤ 9223372036854775807)
    (hla : ln x ≤ 17179869170) (hlb : ln y ≤ 17179869170) :
    Calls Tryd.prog 51 #[.slice A (ln x) cap, .slice B (ln y) dap] w (RetN w (Nat.gcd x y)) := by
  have HA := Lib.hid ha
  have HB := Lib.hid hb
  have HC := Lib.hid (And.intro hca (And.intro hma (And.intro hcb hmb)))
  clear ha hb hca hcb hma hmb
  go_enter Tryd.func51, Tryd.ntmps51
  go_wp2_with fail
  go_loopw [0, 1] (fun v0 v1 wr => ∃ (A : Option Addr) (c a : Nat) (B : Option Addr) (d b : Nat), v0 = .slice A (ln a) c ∧ v1 = .slice B (ln b) d ∧ ln a ≤ 17179869170 ∧ ln b ≤ 17179869170 ∧
      Hid (NS wr A a ∧ NS wr B b ∧ ln a ≤ c ∧ c ≤ 9223372036854775807 ∧ ln b ≤ d ∧ d ≤ 9223372036854775807 ∧ Nat.gcd a b = Nat.gcd x y) ∧ Up w wr) (fun _ v1 wr => readN wr v1)
  case atStart => exact ⟨A, cap, x, B, dap, y, rfl, rfl, hla, hlb, Lib.hid ⟨HA.out, HB.out, HC.out.1, HC.out.2.1, HC.out.2.2.1, HC.out.2.2.2, rfl⟩, Up.refl w⟩
  case round =>
    obtain ⟨A1, c, a, B1, d, b, rfl, rfl, hl1, hl2, HR, hU⟩ := hrel
    by_cases hb0 : b = 0
    · subst hb0
      have hg : a = Nat.gcd x y := by rw [← HR.out.2.2.2.2.2.2, Nat.gcd_zero_right]
      have HG := Lib.hid hg
      clear hg
      rw [ln_zero] at *
      go_wp2_with fail
      go_ret
      rw [← HG.out]
      exact ⟨A1, c, rfl, HR.out.2.2.1, HR.out.2.2.2.1, HR.out.1, hU⟩
    · have hlp : 0 < ln b := Nat.pos_of_ne_zero fun h => hb0 (ln_eq_zero.1 h)
      have HD := Lib.hid (natDiv_any A1 c a B1 d b wr HR.out.1 HR.out.2.1 HR.out.2.2.1 HR.out.2.2.2.1 (by omega) hl2 hb0)
      have HM := Lib.hid (Nat.mod_lt a (Nat.pos_of_ne_zero hb0))
      have HG2 := Lib.hid (show Nat.gcd b (a % b) = Nat.gcd x y from by rw [Nat.gcd_comm, ← Nat.gcd_rec, Nat.gcd_comm]; exact HR.out.2.2.2.2.2.2)
      go_wp2_with fail
      refine HD.out.mono ?_
      rintro e w5 ⟨A2, c2, B2, d2, rfl, h1, h2, h3, h4, h5, h6, hU5⟩
      go_wp2_with fail
      go_roundw
      case rel =>
        exact ⟨B1, d, b, B2, d2, a % b, rfl, rfl, hl2, Nat.le_trans (ln_mono (Nat.le_of_lt HM.out)) hl2, Lib.hid ⟨HR.out.2.1.up hU5, h6, HR.out.2.2.2.2.1, HR.out.2.2.2.2.2.1, h3, h4, HG2.out⟩, hU.trans hU5⟩
      case measure =>
        have e1 := readN_eq (c := d2) h6
        have e2 := readN_eq (c := d) HR.out.2.1
        exact (by rw [e1, e2]; exact HM.out : readN w5 (.slice B2 (ln (a % b)) d2) < readN wr (.slice B1 (ln b) d))
end Go.Proofs.YtefiapjfiojaoaaDoor

/-
  The document's answer: build.
-/
namespace Go.Proofs.YtefiapjfiojaoaaDoor
open Go.RowKit

theorem nv_one : nv [1] = 1 := by simp [nv]
theorem QV.zero {w : World} {h : Nat} (hb : Blk w h 25 #[.int .u32 1]) : QV w (.agg #[.bool false, .slice none 0 0, .slice (some ⟨h, 0, none⟩) 1 1]) 0 := by
  refine ⟨none, 0, some ⟨h, 0, none⟩, 1, by simp [ln_zero, ln_one], NS.zero, ?_, by simp [ln_zero], by omega, by simp [ln_one], by omega⟩
  have hd : zs (digs 1) = [1] := by rw [digs_small (by omega) (by omega)]; rfl
  show NS w (some ⟨h, 0, none⟩) 1
  unfold NS
  rw [hd]
  exact SI.blk _ (t := 25) hb hb.lt
theorem zero_blk {w3 : World} {g : Nat} {b : Bool} {C C' : Option Addr} {l k l' k' : Nat} (r : Blk w3 g 24 #[.bool b, .slice C l k, .slice C' l' k']) :
    Blk ((((w3.setCell ⟨g, 0, none⟩ (.bool false)).setCell ⟨g, 1, none⟩ (.slice none 0 0)).setCell ⟨g, 2, none⟩ (.slice (some ⟨w3.heap.size, 0, none⟩) 1 1)).alloc (Obj.cells #[Value.int .u32 1] 25)) g 24 #[.bool false, .slice none 0 0, .slice (some ⟨w3.heap.size, 0, none⟩) 1 1] :=
  (tri_set r _ _ _).alloc _
/-- What a function leaves that returns 0 out of the box g. -/
theorem ret_zero {w w3 : World} {g : Nat} (hU : Up w w3) (hg : w.heap.size ≤ g) {q : Rat} (hq : q = 0) :
    RetQ w q (.returned (.agg #[.bool false, .slice none 0 0, .slice (some ⟨w3.heap.size, 0, none⟩) 1 1]))
      ((((w3.setCell ⟨g, 0, none⟩ (.bool false)).setCell ⟨g, 1, none⟩ (.slice none 0 0)).setCell ⟨g, 2, none⟩ (.slice (some ⟨w3.heap.size, 0, none⟩) 1 1)).alloc (Obj.cells #[Value.int .u32 1] 25)) := by
  subst hq
  refine ⟨_, rfl, QV.zero (Blk.new' _ _ _ (by simp [World.setCell])), (up_tri hU hg _ _ _).alloc ?_ _⟩
  have := hU.size
  simp [World.setCell]; omega

set_option maxRecDepth 100000 in
set_option maxHeartbeats 6400000 in
theorem build_any (s : Bool) (A : Option Addr) (ca : Nat) (xs : List Nat) (B : Option Addr) (cb : Nat) (ys : List Nat) (w : World) (h1 : SI w w.heap.size .u32 A (zs xs)) (h2 : SI w w.heap.size .u32 B (zs ys))
    (h3 : ∀ a ∈ xs, a < 4294967296) (h4 : ∀ a ∈ ys, a < 4294967296) (h5 : xs.length ≤ 8589934592) (h6 : ys.length ≤ 8589934592) :
    Calls Tryd.prog 36 #[.bool s, .slice A xs.length ca, .slice B ys.length cb] w (RetQ w (fq s (nv xs) (nv ys))) := by
  have HN := Lib.hid (fun wx (hu : Up w wx) => refNat_any A ca xs wx (SI.up h1 hu) h3 h5)
  have HD := Lib.hid (fun wx (hu : Up w wx) => refNat_any B cb ys wx (SI.up h2 hu) h4 h6)
  have hlx : ln (nv xs) ≤ 8589934593 := Nat.le_trans (ln_nv32 h3) (by omega)
  have hly : ln (nv ys) ≤ 8589934593 := Nat.le_trans (ln_nv32 h4) (by omega)
  obtain ⟨x, hx⟩ : ∃ x, x = nv xs := ⟨_, rfl⟩
  obtain ⟨y, hy⟩ : ∃ x, x = nv ys := ⟨_, rfl⟩
  rw [← hx] at HN hlx
  rw [← hy] at HD hly
  rw [← hx, ← hy]
  obtain ⟨l, hl⟩ : ∃ l, l = xs.length := ⟨_, rfl⟩
  obtain ⟨m, hm⟩ : ∃ l, l = ys.length := ⟨_, rfl⟩
  rw [← hl] at HN h5 ⊢
  rw [← hm] at HD h6 ⊢
  clear h1 h2 h3 h4 hx hy hl hm
  go_enter Tryd.func36, Tryd.ntmps36
  go_wp2_with fail
  obtain ⟨w1, hw1⟩ : ∃ w1, w1 = w.alloc (Obj.cells #[.bool false, .slice none 0 0, .slice none 0 0] 24) := ⟨_, rfl⟩
  have U1 : Up w w1 := by rw [hw1]; exact (Below.refl _ _).alloc (Nat.le_refl _) _
  have r1 : Blk w1 w.heap.size 24 #[.bool false, .slice none 0 0, .slice none 0 0] := by rw [hw1]; exact Blk.new' _ _ _ rfl
  rw [← hw1]
  clear hw1
  refine (HN.out w1 U1).mono ?_
  rintro e w2 ⟨N, cn, rfl, n1, n2, n3, n4⟩
  have U2 := U1.trans n4
  go_wp2_with fail
  refine (HD.out w2 U2).mono ?_
  rintro e w3 ⟨D, cd, rfl, d1, d2, d3, d4⟩
  have U3 := U2.trans d4
  have r3 := (r1.up n4).up d4
  have HNN := Lib.hid (And.intro n1 (And.intro n2 (n3.up d4)))
  have HDD := Lib.hid (And.intro d1 (And.intro d2 d3))
  obtain ⟨y0, y1, y2⟩ := tri r3
  have e0 := r3.frozen 0
  have e1 := r3.frozen 1
  have e2 := r3.frozen 2
  have lt3 := r3.lt
  clear U1 U2 r1 n1 n2 n3 n4 d1 d2 d3 d4 HN HD
  by_cases hx0 : x = 0
  · have hq : fq s x y = 0 := by rw [hx0, fq_zero]
    have HQ := Lib.hid hq
    have ht : (((ln x : Nat) : Int) == 0) = true := by rw [hx0, ln_zero]; rfl
    have ht2 : (ln x == 0) = true := by rw [hx0, ln_zero]; rfl
    clear hx0 hq
    go_wp2_with fail
    obtain ⟨c0, c1, c2⟩ := tri (zero_blk r3)
    refine bodyPost_ret (v := .agg #[.bool false, .slice none 0 0, .slice (some ⟨w3.heap.size, 0, none⟩) 1 1]) ?_ rfl ?_
    · simp [results, Tryd.results36, go_sem, c0, c1, c2]
    · exact ret_zero U3 (Nat.le_refl _) HQ.out
  · have htx : (((ln x : Nat) : Int) == 0) = false := by simp; exact fun h => hx0 (ln_eq_zero.1 h)
    have htx2 : (ln x == 0) = false := by simp; exact fun h => hx0 (ln_eq_zero.1 h)
    by_cases hy0 : y = 0
    · have hq : fq s x y = 0 := by rw [hy0, fq_none]
      have HQ := Lib.hid hq
      have ht : (((ln y : Nat) : Int) == 0) = true := by rw [hy0, ln_zero]; rfl
      have ht2 : (ln y == 0) = true := by rw [hy0, ln_zero]; rfl
      clear hx0 hy0 hq
      go_wp2_with fail
      obtain ⟨c0, c1, c2⟩ := tri (zero_blk r3)
      refine bodyPost_ret (v := .agg #[.bool false, .slice none 0 0, .slice (some ⟨w3.heap.size, 0, none⟩) 1 1]) ?_ rfl ?_
      · simp [results, Tryd.results36, go_sem, c0, c1, c2]
      · exact ret_zero U3 (Nat.le_refl _) HQ.out
    · have hty : (((ln y : Nat) : Int) == 0) = false := by simp; exact fun h => hy0 (ln_eq_zero.1 h)
      have hty2 : (ln y == 0) = false := by simp; exact fun h => hy0 (ln_eq_zero.1 h)
      have HG := Lib.hid (natGcd_any N cn x D cd y w3 HNN.out.2.2 HDD.out.2.2 HNN.out.1 HDD.out.1 HNN.out.2.1 HDD.out.2.1 (by omega) (by omega))
      have hgp := Nat.gcd_pos_of_pos_right x (Nat.pos_of_ne_zero hy0)
      have hgl : ln (Nat.gcd x y) ≤ 8589934593 := Nat.le_trans (ln_mono (Nat.gcd_le_right x (Nat.pos_of_ne_zero hy0))) hly
      have hn1 : (fq s x y).num.natAbs = x / Nat.gcd x y := fq_num hy0
      have hn2 : (fq s x y).den = y / Nat.gcd x y := fq_den hy0
      have hn3 : decide ((fq s x y).num < 0) = s := by rw [fq_sign hy0, if_neg hx0]
      obtain ⟨g, hg⟩ : ∃ g, g = Nat.gcd x y := ⟨_, rfl⟩
      rw [← hg] at HG hgp hgl hn1 hn2
      have HQ1 := Lib.hid (And.intro hn1 (And.intro hn2 hn3))
      have HGP := Lib.hid (show g ≠ 0 by omega)
      clear hx0 hy0 hn1 hn2 hn3 hg hgp
      go_wp2_with fail
      refine HG.out.mono ?_
      rintro e w4 ⟨G, cg, rfl, g1, g2, g3, g4⟩
      have U4 := U3.trans g4
      have r4 := r3.up g4
      have HN4 := Lib.hid (HNN.out.2.2.up g4)
      have HD4 := Lib.hid (HDD.out.2.2.up g4)
      have HG4 := Lib.hid g3
      clear e0 e1 e2 y0 y1 y2
      obtain ⟨y0, y1, y2⟩ := tri r4
      have e0 := r4.frozen 0
      have e1 := r4.frozen 1
      have e2 := r4.frozen 2
      by_cases hg1 : g = 1
      · have hl1 : ln g = 1 := by rw [hg1, ln_one]
        have hcell : ∃ ad, G = some ad ∧ ad.block < w4.heap.size ∧ w4.cell? (ad.add 0) = some (.int .u32 (1 : Nat)) := by
          unfold NS at g3
          rw [hg1, digs_small (by omega) (by omega)] at g3
          exact g3.nat (k := 0) (by simp)
        obtain ⟨ad, rfl, had, hcl⟩ := hcell
        have hcl : w4.cell? ad = some (.int .u32 1) := hcl
        have HG1 := Lib.hid hg1
        rw [hl1]
        clear g3 hl1 hg1 HG g1
        go_wp2_with fail
        obtain ⟨c0, c1, c2⟩ := tri (tri_set r4 (.bool s) (.slice N (ln x) cn) (.slice D (ln y) cd))
        have HQ : QV w4 (.agg #[.bool s, .slice N (ln x) cn, .slice D (ln y) cd]) (fq s x y) := by
          unfold QV
          rw [HQ1.out.1, HQ1.out.2.1, HQ1.out.2.2, HG1.out, Nat.div_one, Nat.div_one]
          exact ⟨N, cn, D, cd, rfl, HN4.out, HD4.out, HNN.out.1, HNN.out.2.1, HDD.out.1, HDD.out.2.1⟩
        refine bodyPost_ret (v := .agg #[.bool s, .slice N (ln x) cn, .slice D (ln y) cd]) ?_ rfl (ret_q r4 HQ U4 (Nat.le_refl _))
        simp [results, Tryd.results36, go_sem, c0, c1, c2]
      · have HK := Lib.hid (And.intro g1 g2)
        have hgz : 0 < ln g := Nat.pos_of_ne_zero fun h => HGP.out (ln_eq_zero.1 h)
        rcases (show ln g ≠ 1 ∨ ln g = 1 by omega) with hl1 | hl1
        case' inl =>
          have ht1 : (((ln g : Nat) : Int) != 1) = true := by simp; omega
          have ht2 : (ln g != 1) = true := by simp; omega
          clear hg1 hl1 g3 HG g1
          go_wp2_with fail
        case' inr =>
          have hgd := digs_small HGP.out (by have := ln_le.1 (Nat.le_of_eq hl1); simpa using this)
          have hcell : ∃ ad, G = some ad ∧ ad.block < w4.heap.size ∧ w4.cell? (ad.add 0) = some (.int .u32 (g : Int)) := by
            unfold NS at g3
            rw [hgd] at g3
            exact g3.nat (k := 0) (by simp)
          obtain ⟨ad, rfl, had, hcl⟩ := hcell
          have hcl : w4.cell? ad = some (.int .u32 (g : Int)) := hcl
          have ht1 : ((g : Int) != 1) = true := by simp; omega
          have ht2 : (g != 1) = true := by simp; omega
          have hl2 : (((ln g : Nat) : Int) != 1) = false := by simp; omega
          have hl3 : (ln g != 1) = false := by simp; omega
          have hl4 : (0 : Int) < (ln g : Int) := by omega
          clear hg1 hl1 g3 hgd HG g1
          go_wp2_with fail
        all_goals
          refine (natDiv_any N cn x _ cg g w4 HN4.out HG4.out HNN.out.1 HNN.out.2.1 (by omega) (by omega) HGP.out).mono ?_
          rintro e w5 ⟨A5, c5, B5, d5, rfl, h51, h52, h53, h54, h55, h56, hU5⟩
          have U5 := U4.trans hU5
          have r5 := r4.up hU5
          go_wp2_with fail
          refine (natDiv_any D cd y _ cg g w5 (HD4.out.up hU5) (HG4.out.up hU5) HDD.out.1 HDD.out.2.1 (by omega) (by omega) HGP.out).mono ?_
          rintro e w6 ⟨A6, c6, B6, d6, rfl, h61, h62, h63, h64, h65, h66, hU6⟩
          have U6 := U5.trans hU6
          have r6 := r5.up hU6
          obtain ⟨k0, k1, k2⟩ := tri r6
          have m0 := r6.frozen 0
          have m1 := r6.frozen 1
          have m2 := r6.frozen 2
          have HQ : QV w6 (.agg #[.bool s, .slice A5 (ln (x / g)) c5, .slice A6 (ln (y / g)) c6]) (fq s x y) := by
            unfold QV
            rw [HQ1.out.1, HQ1.out.2.1, HQ1.out.2.2]
            exact ⟨A5, c5, A6, c6, rfl, h55.up hU6, h65, h51, h52, h61, h62⟩
          go_wp2_with fail
          obtain ⟨c0, c1, c2⟩ := tri (tri_set r6 (.bool s) (.slice A5 (ln (x / g)) c5) (.slice A6 (ln (y / g)) c6))
          refine bodyPost_ret (v := .agg #[.bool s, .slice A5 (ln (x / g)) c5, .slice A6 (ln (y / g)) c6]) ?_ rfl (ret_q r6 HQ U6 (Nat.le_refl _))
          simp [results, Tryd.results36, go_sem, c0, c1, c2]
end Go.Proofs.YtefiapjfiojaoaaDoor
