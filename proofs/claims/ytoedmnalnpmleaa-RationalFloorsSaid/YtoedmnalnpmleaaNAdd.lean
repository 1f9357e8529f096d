/-
  The contract of rational.add.
-/
import Derived.Test.YtoedmnalnpmleaaNWord
namespace Go.Proofs.Ytoedmnalnpmleaa
open Go.RowKit

set_option maxHeartbeats 3200000 in
theorem add_ge (A : Option Addr) (cap x : Nat) (B : Option Addr) (dap y : Nat) (w : World) (ha : NS w A x) (hb : NS w B y) (hla : ln x ≤ 17179869184) (hlen : ln y ≤ ln x) :
    Calls Try.prog 36 #[.slice A (ln x) cap, .slice B (ln y) dap] w (RetN w (x + y)) := by
  unfold NS at ha hb
  have hnx := nv_digs x
  have hny := nv_digs y
  have hltx := digs_lt x
  have hlty := digs_lt y
  have hlnx : (digs x).length = ln x := rfl
  have hlny : (digs y).length = ln y := rfl
  obtain ⟨xa, hxa⟩ : ∃ ns, ns = digs x := ⟨_, rfl⟩
  obtain ⟨xb, hxb⟩ : ∃ ns, ns = digs y := ⟨_, rfl⟩
  rw [← hxa] at ha hnx hltx hlnx
  rw [← hxb] at hb hny hlty hlny
  have hlm : xa.length ≤ ln (x + y) := by rw [hlnx]; exact ln_mono (Nat.le_add_right _ _)
  rw [← hlnx] at hla hlen ⊢
  rw [← hlny] at hlen ⊢
  clear hxa hxb hlnx hlny
  have HX := Lib.hid hnx
  have HY := Lib.hid hny
  have HLX := Lib.hid hltx
  have HLY := Lib.hid hlty
  have HLM := Lib.hid hlm
  clear hnx hny hltx hlty hlm
  have hdn : decide (xa.length < xb.length) = false := by simp; omega
  go_enter Try.func36, Try.ntmps36
  go_wp2_with (first
    | (at_make; refine wpList_make0 rfl (.const (.int .i64 0)) (.tmp 18) 38 rfl w.heap.size 36 .u32 tabN .i64 .i64 _ (xa.length + 1) rfl rfl (by omega) (by omega) (Nat.le_refl _) ?_; intro w1 hO1 hU1))
  have HO1 := Lib.hid hO1
  clear hO1
  go_loopw [5, 6, 22] (fun v c i wr => ∃ (k : Nat) (cy : Nat) (xs : List Nat), k ≤ xa.length ∧ i = .int .i64 k ∧ c = .int .u32 cy ∧ cy ≤ 1 ∧ OI wr w.heap.size 36 .u32 v (zs xs) ∧ xs.length = k ∧ (∀ a ∈ xs, a < 1000000000) ∧
      nv xs + 1000000000 ^ k * cy = nv (xa.take k) + nv (xb.take k) ∧ Up w wr) (fun _ _ i _ => xa.length - (intOf i).toNat)
  case atStart => exact ⟨0, 0, [], Nat.zero_le _, rfl, rfl, by omega, HO1.out, rfl, by simp, by simp [nv], hU1⟩
  case round =>
    obtain ⟨k, cy, xs, hk, rfl, rfl, hcy, hO, hxl, hxs, hnv, hU⟩ := hrel
    have hus := hU.size
    have hxl1 : xs.length ≤ 17179869184 := by omega
    have HXL := Lib.hid hxl
    have HXS := Lib.hid hxs
    have HO := Lib.hid hO
    by_cases hlt : k < xa.length
    · obtain ⟨ad, hAd, had, hcell⟩ := (ha.below hU).nat hlt
      subst hAd
      have ha9 := HLX.out xa[k] (List.getElem_mem hlt)
      have hta := nv_take' xa k
      have htb := nv_take' xb k
      rw [show xa.getD k 0 = xa[k] from by simp [hlt]] at hta
      obtain ⟨z, hz⟩ : ∃ z, z = xa[k] := ⟨_, rfl⟩
      rw [← hz] at hcell ha9 hta
      by_cases hlb : k < xb.length
      · obtain ⟨ae, hAe, hae, hcb⟩ := (hb.below hU).nat hlb
        subst hAe
        have hb9 := HLY.out xb[k] (List.getElem_mem hlb)
        rw [show xb.getD k 0 = xb[k] from by simp [hlb]] at htb
        obtain ⟨u, hu⟩ : ∃ u, u = xb[k] := ⟨_, rfl⟩
        rw [← hu] at hcb hb9 htb
        have hst := add_step (a := z) (b := u) hnv rfl
        have hst2 : nv xs + 1000000000 ^ k * ((z + cy + u) % 1000000000) + 1000000000 ^ (k + 1) * ((z + cy + u) / 1000000000) = nv (xa.take (k + 1)) + nv (xb.take (k + 1)) := by rw [hst, hta, htb]; omega
        have HST := Lib.hid hst2
        have hcl : (z + cy + u) / 1000000000 ≤ 1 := by omega
        have hdl : decide (k < xb.length) = true := by simp; omega
        clear hz hu hst hst2 hta htb hnv hxl hxs hO
        go_wp2_with (first
          | (at_builtin; go_must (refine wpList_append_ints rfl (.tmp 43) (.tmp 46) 38 rfl w.heap.size 36 .u32 tabN u5 (zs xs) rfl (HO.out.alloc _) (wr.heap.size + 1) (some ⟨wr.heap.size, 0, none⟩) 1 [((z : Int) + cy + u) % 1000000000] rfl (by exact SI.blk _ (Blk.new wr 36 _) (by simp)) (by simp; omega) (by simp; omega) ?_; intro v2 w2 hA2)))
        go_roundw
        case rel =>
          refine ⟨k + 1, (z + cy + u) / 1000000000, xs ++ [(z + cy + u) % 1000000000], by omega, by go_num, by go_num, hcl, ?_, by rw [List.length_append, HXL.out]; rfl, ?_, ?_, ?_⟩
          · rw [zs_one xs _ (z := ((z : Int) + cy + u) % 1000000000) (by omega)]; exact hA2.own
          · intro a ha
            rcases List.mem_append.1 ha with ha | ha
            · exact HXS.out a ha
            · simp at ha; omega
          · rw [nv_snoc, HXL.out]; exact HST.out
          · exact hA2.below (hU.alloc hus _) (HO.out.alloc _) (by simp; omega)
        case measure => simp [intOf]; omega
      · rw [show xb.getD k 0 = 0 from by simp [List.getElem?_eq_none (by omega : xb.length ≤ k)]] at htb
        have hst := add_step (a := z) (b := 0) hnv rfl
        have hst2 : nv xs + 1000000000 ^ k * ((z + cy) % 1000000000) + 1000000000 ^ (k + 1) * ((z + cy) / 1000000000) = nv (xa.take (k + 1)) + nv (xb.take (k + 1)) := by rw [Nat.add_zero] at hst; rw [hst, hta, htb]; omega
        have HST := Lib.hid hst2
        have hcl : (z + cy) / 1000000000 ≤ 1 := by omega
        have hdl : decide (k < xb.length) = false := by simp; omega
        clear hz hst hst2 hta htb hnv hxl hxs hO hlb
        go_wp2_with (first
          | (at_builtin; go_must (refine wpList_append_ints rfl (.tmp 43) (.tmp 46) 38 rfl w.heap.size 36 .u32 tabN u5 (zs xs) rfl (HO.out.alloc _) (wr.heap.size + 1) (some ⟨wr.heap.size, 0, none⟩) 1 [((z : Int) + cy) % 1000000000] rfl (by exact SI.blk _ (Blk.new wr 36 _) (by simp)) (by simp; omega) (by simp; omega) ?_; intro v2 w2 hA2)))
        go_roundw
        case rel =>
          refine ⟨k + 1, (z + cy) / 1000000000, xs ++ [(z + cy) % 1000000000], by omega, by go_num, by go_num, hcl, ?_, by rw [List.length_append, HXL.out]; rfl, ?_, ?_, ?_⟩
          · rw [zs_one xs _ (z := ((z : Int) + cy) % 1000000000) (by omega)]; exact hA2.own
          · intro a ha
            rcases List.mem_append.1 ha with ha | ha
            · exact HXS.out a ha
            · simp at ha; omega
          · rw [nv_snoc, HXL.out]; exact HST.out
          · exact hA2.below (hU.alloc hus _) (HO.out.alloc _) (by simp; omega)
        case measure => simp [intOf]; omega
    · have hk' : k = xa.length := by omega
      subst hk'
      rw [List.take_length, List.take_of_length_le (by omega), HX.out, HY.out] at hnv
      by_cases hc0 : cy = 0
      · subst hc0
        have hv : nv xs = x + y := by simpa using hnv
        have hd := digs_of_len HXS.out (by rw [hv, HXL.out]; exact HLM.out)
        rw [hv] at hd
        have hlx : xs.length = ln (x + y) := by rw [ln, hd]
        obtain ⟨A2, c2, hv2, hc2, hm2, sA2, hO2⟩ := HO.out.form
        rw [zs_length, hlx] at hv2 hc2
        rw [← hd] at sA2
        have H2 := Lib.hid sA2
        have H3 := Lib.hid (And.intro hm2 hc2)
        rw [hv2]
        clear hd hO sA2 hO2 hm2 hc2 hv hnv hlx hxl
        go_wp2_with fail
        go_ret
        exact ⟨A2, c2, rfl, H3.out.2, by simpa [maxLen] using H3.out.1, H2.out, hU⟩
      · have hc1 : decide ((0 : Int) < cy) = true := by simp; omega
        have hv : nv (xs ++ [cy]) = x + y := by rw [nv_snoc, HXL.out]; exact hnv
        have hall : ∀ a ∈ xs ++ [cy], a < 1000000000 := by
          intro a ha
          rcases List.mem_append.1 ha with ha | ha
          · exact HXS.out a ha
          · simp at ha; omega
        have hge : xa.length + 1 ≤ ln (x + y) := by
          rcases Nat.lt_or_ge xa.length (ln (x + y)) with h | h
          · exact h
          · have h1 := ln_le.1 h
            have h2 : 1000000000 ^ xa.length * 1 ≤ 1000000000 ^ xa.length * cy := Nat.mul_le_mul (Nat.le_refl _) (by omega)
            omega
        have hd := digs_of_len hall (by rw [hv, List.length_append, HXL.out]; exact hge)
        rw [hv] at hd
        have hlx : xs.length + 1 = ln (x + y) := by rw [ln, hd]; simp
        have HD := Lib.hid hd
        have HLX2 := Lib.hid hlx
        clear hd hv hall hge hlx hnv hxl
        go_wp2_with (first
          | (at_builtin; go_must (refine wpList_append_ints rfl (.tmp 51) (.tmp 53) 38 rfl w.heap.size 36 .u32 tabN u5 (zs xs) rfl (HO.out.alloc _) (wr.heap.size + 1) (some ⟨wr.heap.size, 0, none⟩) 1 [(cy : Int)] rfl (by exact SI.blk _ (Blk.new wr 36 _) (by simp)) (by simp; omega) (by simp; omega) ?_; intro v2 w2 hA2; obtain ⟨A2, c2, hv2, hc2, hm2, sA2, hO2⟩ := hA2.own.form; rw [← zs_one xs cy rfl, zs_length, List.length_append, show xs.length + [cy].length = ln (x + y) from HLX2.out] at hv2; rw [hv2])))
        go_ret
        rw [← zs_one xs cy rfl] at sA2 hc2
        rw [← HD.out] at sA2
        rw [zs_length, List.length_append, show xs.length + [cy].length = ln (x + y) from HLX2.out] at hc2
        exact ⟨A2, c2, rfl, hc2, by simpa [maxLen] using hm2, sA2, hA2.below (hU.alloc hus _) (HO.out.alloc _) (by simp; omega)⟩

set_option maxHeartbeats 3200000 in
theorem add_lt (A : Option Addr) (cap x : Nat) (B : Option Addr) (dap y : Nat) (w : World) (ha : NS w A x) (hb : NS w B y) (hla : ln x ≤ 17179869184) (hlen : ln y < ln x) :
    Calls Try.prog 36 #[.slice B (ln y) dap, .slice A (ln x) cap] w (RetN w (x + y)) := by
  unfold NS at ha hb
  have hnx := nv_digs x
  have hny := nv_digs y
  have hltx := digs_lt x
  have hlty := digs_lt y
  have hlnx : (digs x).length = ln x := rfl
  have hlny : (digs y).length = ln y := rfl
  obtain ⟨xa, hxa⟩ : ∃ ns, ns = digs x := ⟨_, rfl⟩
  obtain ⟨xb, hxb⟩ : ∃ ns, ns = digs y := ⟨_, rfl⟩
  rw [← hxa] at ha hnx hltx hlnx
  rw [← hxb] at hb hny hlty hlny
  have hlm : xa.length ≤ ln (x + y) := by rw [hlnx]; exact ln_mono (Nat.le_add_right _ _)
  rw [← hlnx] at hla hlen ⊢
  rw [← hlny] at hlen ⊢
  clear hxa hxb hlnx hlny
  have HX := Lib.hid hnx
  have HY := Lib.hid hny
  have HLX := Lib.hid hltx
  have HLY := Lib.hid hlty
  have HLM := Lib.hid hlm
  clear hnx hny hltx hlty hlm
  have hdn : decide (xb.length < xa.length) = true := by simp; omega
  go_enter Try.func36, Try.ntmps36
  go_wp2_with (first
    | (at_make; refine wpList_make0 rfl (.const (.int .i64 0)) (.tmp 18) 38 rfl w.heap.size 36 .u32 tabN .i64 .i64 _ (xa.length + 1) rfl rfl (by omega) (by omega) (Nat.le_refl _) ?_; intro w1 hO1 hU1))
  have HO1 := Lib.hid hO1
  clear hO1
  go_loopw [5, 6, 22] (fun v c i wr => ∃ (k : Nat) (cy : Nat) (xs : List Nat), k ≤ xa.length ∧ i = .int .i64 k ∧ c = .int .u32 cy ∧ cy ≤ 1 ∧ OI wr w.heap.size 36 .u32 v (zs xs) ∧ xs.length = k ∧ (∀ a ∈ xs, a < 1000000000) ∧
      nv xs + 1000000000 ^ k * cy = nv (xa.take k) + nv (xb.take k) ∧ Up w wr) (fun _ _ i _ => xa.length - (intOf i).toNat)
  case atStart => exact ⟨0, 0, [], Nat.zero_le _, rfl, rfl, by omega, HO1.out, rfl, by simp, by simp [nv], hU1⟩
  case round =>
    obtain ⟨k, cy, xs, hk, rfl, rfl, hcy, hO, hxl, hxs, hnv, hU⟩ := hrel
    have hus := hU.size
    have hxl1 : xs.length ≤ 17179869184 := by omega
    have HXL := Lib.hid hxl
    have HXS := Lib.hid hxs
    have HO := Lib.hid hO
    by_cases hlt : k < xa.length
    · obtain ⟨ad, hAd, had, hcell⟩ := (ha.below hU).nat hlt
      subst hAd
      have ha9 := HLX.out xa[k] (List.getElem_mem hlt)
      have hta := nv_take' xa k
      have htb := nv_take' xb k
      rw [show xa.getD k 0 = xa[k] from by simp [hlt]] at hta
      obtain ⟨z, hz⟩ : ∃ z, z = xa[k] := ⟨_, rfl⟩
      rw [← hz] at hcell ha9 hta
      by_cases hlb : k < xb.length
      · obtain ⟨ae, hAe, hae, hcb⟩ := (hb.below hU).nat hlb
        subst hAe
        have hb9 := HLY.out xb[k] (List.getElem_mem hlb)
        rw [show xb.getD k 0 = xb[k] from by simp [hlb]] at htb
        obtain ⟨u, hu⟩ : ∃ u, u = xb[k] := ⟨_, rfl⟩
        rw [← hu] at hcb hb9 htb
        have hst := add_step (a := z) (b := u) hnv rfl
        have hst2 : nv xs + 1000000000 ^ k * ((z + cy + u) % 1000000000) + 1000000000 ^ (k + 1) * ((z + cy + u) / 1000000000) = nv (xa.take (k + 1)) + nv (xb.take (k + 1)) := by rw [hst, hta, htb]; omega
        have HST := Lib.hid hst2
        have hcl : (z + cy + u) / 1000000000 ≤ 1 := by omega
        have hdl : decide (k < xb.length) = true := by simp; omega
        clear hz hu hst hst2 hta htb hnv hxl hxs hO
        go_wp2_with (first
          | (at_builtin; go_must (refine wpList_append_ints rfl (.tmp 43) (.tmp 46) 38 rfl w.heap.size 36 .u32 tabN u5 (zs xs) rfl (HO.out.alloc _) (wr.heap.size + 1) (some ⟨wr.heap.size, 0, none⟩) 1 [((z : Int) + cy + u) % 1000000000] rfl (by exact SI.blk _ (Blk.new wr 36 _) (by simp)) (by simp; omega) (by simp; omega) ?_; intro v2 w2 hA2)))
        go_roundw
        case rel =>
          refine ⟨k + 1, (z + cy + u) / 1000000000, xs ++ [(z + cy + u) % 1000000000], by omega, by go_num, by go_num, hcl, ?_, by rw [List.length_append, HXL.out]; rfl, ?_, ?_, ?_⟩
          · rw [zs_one xs _ (z := ((z : Int) + cy + u) % 1000000000) (by omega)]; exact hA2.own
          · intro a ha
            rcases List.mem_append.1 ha with ha | ha
            · exact HXS.out a ha
            · simp at ha; omega
          · rw [nv_snoc, HXL.out]; exact HST.out
          · exact hA2.below (hU.alloc hus _) (HO.out.alloc _) (by simp; omega)
        case measure => simp [intOf]; omega
      · rw [show xb.getD k 0 = 0 from by simp [List.getElem?_eq_none (by omega : xb.length ≤ k)]] at htb
        have hst := add_step (a := z) (b := 0) hnv rfl
        have hst2 : nv xs + 1000000000 ^ k * ((z + cy) % 1000000000) + 1000000000 ^ (k + 1) * ((z + cy) / 1000000000) = nv (xa.take (k + 1)) + nv (xb.take (k + 1)) := by rw [Nat.add_zero] at hst; rw [hst, hta, htb]; omega
        have HST := Lib.hid hst2
        have hcl : (z + cy) / 1000000000 ≤ 1 := by omega
        have hdl : decide (k < xb.length) = false := by simp; omega
        clear hz hst hst2 hta htb hnv hxl hxs hO hlb
        go_wp2_with (first
          | (at_builtin; go_must (refine wpList_append_ints rfl (.tmp 43) (.tmp 46) 38 rfl w.heap.size 36 .u32 tabN u5 (zs xs) rfl (HO.out.alloc _) (wr.heap.size + 1) (some ⟨wr.heap.size, 0, none⟩) 1 [((z : Int) + cy) % 1000000000] rfl (by exact SI.blk _ (Blk.new wr 36 _) (by simp)) (by simp; omega) (by simp; omega) ?_; intro v2 w2 hA2)))
        go_roundw
        case rel =>
          refine ⟨k + 1, (z + cy) / 1000000000, xs ++ [(z + cy) % 1000000000], by omega, by go_num, by go_num, hcl, ?_, by rw [List.length_append, HXL.out]; rfl, ?_, ?_, ?_⟩
          · rw [zs_one xs _ (z := ((z : Int) + cy) % 1000000000) (by omega)]; exact hA2.own
          · intro a ha
            rcases List.mem_append.1 ha with ha | ha
            · exact HXS.out a ha
            · simp at ha; omega
          · rw [nv_snoc, HXL.out]; exact HST.out
          · exact hA2.below (hU.alloc hus _) (HO.out.alloc _) (by simp; omega)
        case measure => simp [intOf]; omega
    · have hk' : k = xa.length := by omega
      subst hk'
      rw [List.take_length, List.take_of_length_le (by omega), HX.out, HY.out] at hnv
      by_cases hc0 : cy = 0
      · subst hc0
        have hv : nv xs = x + y := by simpa using hnv
        have hd := digs_of_len HXS.out (by rw [hv, HXL.out]; exact HLM.out)
        rw [hv] at hd
        have hlx : xs.length = ln (x + y) := by rw [ln, hd]
        obtain ⟨A2, c2, hv2, hc2, hm2, sA2, hO2⟩ := HO.out.form
        rw [zs_length, hlx] at hv2 hc2
        rw [← hd] at sA2
        have H2 := Lib.hid sA2
        have H3 := Lib.hid (And.intro hm2 hc2)
        rw [hv2]
        clear hd hO sA2 hO2 hm2 hc2 hv hnv hlx hxl
        go_wp2_with fail
        go_ret
        exact ⟨A2, c2, rfl, H3.out.2, by simpa [maxLen] using H3.out.1, H2.out, hU⟩
      · have hc1 : decide ((0 : Int) < cy) = true := by simp; omega
        have hv : nv (xs ++ [cy]) = x + y := by rw [nv_snoc, HXL.out]; exact hnv
        have hall : ∀ a ∈ xs ++ [cy], a < 1000000000 := by
          intro a ha
          rcases List.mem_append.1 ha with ha | ha
          · exact HXS.out a ha
          · simp at ha; omega
        have hge : xa.length + 1 ≤ ln (x + y) := by
          rcases Nat.lt_or_ge xa.length (ln (x + y)) with h | h
          · exact h
          · have h1 := ln_le.1 h
            have h2 : 1000000000 ^ xa.length * 1 ≤ 1000000000 ^ xa.length * cy := Nat.mul_le_mul (Nat.le_refl _) (by omega)
            omega
        have hd := digs_of_len hall (by rw [hv, List.length_append, HXL.out]; exact hge)
        rw [hv] at hd
        have hlx : xs.length + 1 = ln (x + y) := by rw [ln, hd]; simp
        have HD := Lib.hid hd
        have HLX2 := Lib.hid hlx
        clear hd hv hall hge hlx hnv hxl
        go_wp2_with (first
          | (at_builtin; go_must (refine wpList_append_ints rfl (.tmp 51) (.tmp 53) 38 rfl w.heap.size 36 .u32 tabN u5 (zs xs) rfl (HO.out.alloc _) (wr.heap.size + 1) (some ⟨wr.heap.size, 0, none⟩) 1 [(cy : Int)] rfl (by exact SI.blk _ (Blk.new wr 36 _) (by simp)) (by simp; omega) (by simp; omega) ?_; intro v2 w2 hA2; obtain ⟨A2, c2, hv2, hc2, hm2, sA2, hO2⟩ := hA2.own.form; rw [← zs_one xs cy rfl, zs_length, List.length_append, show xs.length + [cy].length = ln (x + y) from HLX2.out] at hv2; rw [hv2])))
        go_ret
        rw [← zs_one xs cy rfl] at sA2 hc2
        rw [← HD.out] at sA2
        rw [zs_length, List.length_append, show xs.length + [cy].length = ln (x + y) from HLX2.out] at hc2
        exact ⟨A2, c2, rfl, hc2, by simpa [maxLen] using hm2, sA2, hA2.below (hU.alloc hus _) (HO.out.alloc _) (by simp; omega)⟩

theorem add_any (A : Option Addr) (cap x : Nat) (B : Option Addr) (dap y : Nat) (w : World) (ha : NS w A x) (hb : NS w B y) (hla : ln x ≤ 17179869184) (hlb : ln y ≤ 17179869184) :
    Calls Try.prog 36 #[.slice A (ln x) cap, .slice B (ln y) dap] w (RetN w (x + y)) := by
  rcases Nat.lt_or_ge (ln x) (ln y) with h | h
  · rw [Nat.add_comm]
    exact add_lt B dap y A cap x w hb ha hlb h
  · exact add_ge A cap x B dap y w ha hb hla h
end Go.Proofs.Ytoedmnalnpmleaa
