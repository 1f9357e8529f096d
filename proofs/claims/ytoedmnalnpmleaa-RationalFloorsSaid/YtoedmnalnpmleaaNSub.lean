/-
  The contract of rational.subtract.
-/
import Derived.Test.YtoedmnalnpmleaaNAdd
namespace Go.Proofs.Ytoedmnalnpmleaa
open Go.RowKit

set_option maxHeartbeats 3200000 in
theorem subtract_any (A : Option Addr) (cap x : Nat) (B : Option Addr) (dap y : Nat) (w : World) (ha : NS w A x) (hb : NS w B y) (hla : ln x ≤ 17179869184) (hyx : y ≤ x) :
    Calls Try.prog 37 #[.slice A (ln x) cap, .slice B (ln y) dap] w (RetN w (x - y)) := by
  have hlen := ln_mono hyx
  unfold NS at ha hb
  have hnx := nv_digs x
  have hny := nv_digs y
  have hltx := digs_lt x
  have hlty := digs_lt y
  have hlnx : (digs x).length = ln x := rfl
  have hlny : (digs y).length = ln y := rfl
  obtain ⟨xa, hxa⟩ : ∃ ns, ns = digs x := ⟨_, rfl⟩
  obtain ⟨xb, hxb⟩ : ∃ ns, ns = digs y := ⟨_, rfl⟩
  rw [← hxa] at ha hnx hltx hlnx
  rw [← hxb] at hb hny hlty hlny
  rw [← hlnx] at hla hlen ⊢
  rw [← hlny] at hlen ⊢
  clear hxa hxb hlnx hlny
  have HX := Lib.hid hnx
  have HY := Lib.hid hny
  have HLX := Lib.hid hltx
  have HLY := Lib.hid hlty
  have HYX := Lib.hid hyx
  clear hnx hny hltx hlty hyx
  go_enter Try.func37, Try.ntmps37
  go_wp2_with (first
    | (at_make; refine wpList_make0 rfl (.const (.int .i64 0)) (.tmp 10) 38 rfl w.heap.size 36 .u32 tabN .i64 .i64 _ xa.length rfl rfl (by omega) (by omega) (Nat.le_refl _) ?_; intro w1 hO1 hU1))
  have HO1 := Lib.hid hO1
  clear hO1
  go_loopw [5, 6, 14] (fun v c i wr => ∃ (k : Nat) (cy : Nat) (xs : List Nat), k ≤ xa.length ∧ i = .int .i64 k ∧ c = .int .i64 cy ∧ cy ≤ 1 ∧ OI wr w.heap.size 36 .u32 v (zs xs) ∧ xs.length = k ∧ (∀ a ∈ xs, a < 1000000000) ∧
      nv (xa.take k) + 1000000000 ^ k * cy = nv xs + nv (xb.take k) ∧ Up w wr) (fun _ _ i _ => xa.length - (intOf i).toNat)
  case atStart => exact ⟨0, 0, [], Nat.zero_le _, rfl, rfl, by omega, HO1.out, rfl, by simp, by simp [nv], hU1⟩
  case round =>
    obtain ⟨k, cy, xs, hk, rfl, rfl, hcy, hO, hxl, hxs, hnv, hU⟩ := hrel
    have hus := hU.size
    have hxl1 : xs.length ≤ 17179869184 := by omega
    have HXL := Lib.hid hxl
    have HXS := Lib.hid hxs
    have HO := Lib.hid hO
    by_cases hlt : k < xa.length
    · obtain ⟨ad, hAd, had, hcell⟩ := (ha.below hU).nat hlt
      subst hAd
      have ha9 := HLX.out xa[k] (List.getElem_mem hlt)
      have hta := nv_take' xa k
      have htb := nv_take' xb k
      rw [show xa.getD k 0 = xa[k] from by simp [hlt]] at hta
      obtain ⟨z, hz⟩ : ∃ z, z = xa[k] := ⟨_, rfl⟩
      rw [← hz] at hcell ha9 hta
      by_cases hlb : k < xb.length
      · obtain ⟨ae, hAe, hae, hcb⟩ := (hb.below hU).nat hlb
        subst hAe
        have hb9 := HLY.out xb[k] (List.getElem_mem hlb)
        rw [show xb.getD k 0 = xb[k] from by simp [hlb]] at htb
        obtain ⟨u, hu⟩ : ∃ u, u = xb[k] := ⟨_, rfl⟩
        rw [← hu] at hcb hb9 htb
        have hdl : decide (k < xb.length) = true := by simp; omega
        by_cases hneg : z < cy + u
        · have hst2 : nv (xa.take (k + 1)) + 1000000000 ^ (k + 1) * 1 = nv (xs ++ [z + 1000000000 - cy - u]) + nv (xb.take (k + 1)) := by
            rw [nv_snoc, hxl, hta, htb]
            exact sub_step hnv (by omega)
          have HST := Lib.hid hst2
          have hbnd : z + 1000000000 - cy - u < 1000000000 := by omega
          have hsg : decide (((z : Int) - cy - u) < 0) = true := by simp <;> omega
          have hz0 : (0 : Int) ≤ (z : Int) - cy - u + 1000000000 := by omega
          have hz1 : (z : Int) - cy - u + 1000000000 < 1000000000 := by omega
          have heq : ((z : Int) - cy - u + 1000000000 : Int) = ((z + 1000000000 - cy - u : Nat) : Int) := by omega
          have HQ := Lib.hid heq
          clear hz hu hst2 hta htb hnv hxl hxs hO heq
          go_wp2_with (first
            | (at_builtin; go_must (refine wpList_append_ints rfl (.tmp 39) (.tmp 42) 38 rfl w.heap.size 36 .u32 tabN u5 (zs xs) rfl (HO.out.alloc _) (wr.heap.size + 1) (some ⟨wr.heap.size, 0, none⟩) 1 [(z : Int) - cy - u + 1000000000] rfl (by exact SI.blk _ (Blk.new wr 36 _) (by simp)) (by simp; omega) (by simp; omega) ?_; intro v2 w2 hA2)))
          go_roundw
          case rel =>
            refine ⟨k + 1, 1, xs ++ [z + 1000000000 - cy - u], by omega, by go_num, rfl, by omega, ?_, by rw [List.length_append, HXL.out]; rfl, ?_, HST.out, ?_⟩
            · rw [zs_one xs _ HQ.out]; exact hA2.own
            · intro a ha
              rcases List.mem_append.1 ha with ha | ha
              · exact HXS.out a ha
              · simp at ha; omega
            · exact hA2.below (hU.alloc hus _) (HO.out.alloc _) (by simp; omega)
          case measure => simp [intOf]; omega
        · have hst2 : nv (xa.take (k + 1)) + 1000000000 ^ (k + 1) * 0 = nv (xs ++ [z - cy - u]) + nv (xb.take (k + 1)) := by
            rw [nv_snoc, hxl, hta, htb]
            exact sub_step hnv (by omega)
          have HST := Lib.hid hst2
          have hbnd : z - cy - u < 1000000000 := by omega
          have hsg : decide (((z : Int) - cy - u) < 0) = false := by simp <;> omega
          have hz0 : (0 : Int) ≤ (z : Int) - cy - u := by omega
          have hz1 : (z : Int) - cy - u < 1000000000 := by omega
          have heq : ((z : Int) - cy - u : Int) = ((z - cy - u : Nat) : Int) := by omega
          have HQ := Lib.hid heq
          clear hz hu hst2 hta htb hnv hxl hxs hO heq
          go_wp2_with (first
            | (at_builtin; go_must (refine wpList_append_ints rfl (.tmp 39) (.tmp 42) 38 rfl w.heap.size 36 .u32 tabN u5 (zs xs) rfl (HO.out.alloc _) (wr.heap.size + 1) (some ⟨wr.heap.size, 0, none⟩) 1 [(z : Int) - cy - u] rfl (by exact SI.blk _ (Blk.new wr 36 _) (by simp)) (by simp; omega) (by simp; omega) ?_; intro v2 w2 hA2)))
          go_roundw
          case rel =>
            refine ⟨k + 1, 0, xs ++ [z - cy - u], by omega, by go_num, rfl, by omega, ?_, by rw [List.length_append, HXL.out]; rfl, ?_, HST.out, ?_⟩
            · rw [zs_one xs _ HQ.out]; exact hA2.own
            · intro a ha
              rcases List.mem_append.1 ha with ha | ha
              · exact HXS.out a ha
              · simp at ha; omega
            · exact hA2.below (hU.alloc hus _) (HO.out.alloc _) (by simp; omega)
          case measure => simp [intOf]; omega
      · rw [show xb.getD k 0 = 0 from by simp [List.getElem?_eq_none (by omega : xb.length ≤ k)]] at htb
        have hdl : decide (k < xb.length) = false := by simp; omega
        clear hlb
        by_cases hneg : z < cy
        · have hst2 : nv (xa.take (k + 1)) + 1000000000 ^ (k + 1) * 1 = nv (xs ++ [z + 1000000000 - cy]) + nv (xb.take (k + 1)) := by
            rw [nv_snoc, hxl, hta, htb]
            exact sub_step hnv (by omega)
          have HST := Lib.hid hst2
          have hbnd : z + 1000000000 - cy < 1000000000 := by omega
          have hsg : decide (((z : Int) - cy) < 0) = true := by simp <;> omega
          have hz0 : (0 : Int) ≤ (z : Int) - cy + 1000000000 := by omega
          have hz1 : (z : Int) - cy + 1000000000 < 1000000000 := by omega
          have heq : ((z : Int) - cy + 1000000000 : Int) = ((z + 1000000000 - cy : Nat) : Int) := by omega
          have HQ := Lib.hid heq
          clear hz hst2 hta htb hnv hxl hxs hO heq
          go_wp2_with (first
            | (at_builtin; go_must (refine wpList_append_ints rfl (.tmp 39) (.tmp 42) 38 rfl w.heap.size 36 .u32 tabN u5 (zs xs) rfl (HO.out.alloc _) (wr.heap.size + 1) (some ⟨wr.heap.size, 0, none⟩) 1 [(z : Int) - cy + 1000000000] rfl (by exact SI.blk _ (Blk.new wr 36 _) (by simp)) (by simp; omega) (by simp; omega) ?_; intro v2 w2 hA2)))
          go_roundw
          case rel =>
            refine ⟨k + 1, 1, xs ++ [z + 1000000000 - cy], by omega, by go_num, rfl, by omega, ?_, by rw [List.length_append, HXL.out]; rfl, ?_, HST.out, ?_⟩
            · rw [zs_one xs _ HQ.out]; exact hA2.own
            · intro a ha
              rcases List.mem_append.1 ha with ha | ha
              · exact HXS.out a ha
              · simp at ha; omega
            · exact hA2.below (hU.alloc hus _) (HO.out.alloc _) (by simp; omega)
          case measure => simp [intOf]; omega
        · have hst2 : nv (xa.take (k + 1)) + 1000000000 ^ (k + 1) * 0 = nv (xs ++ [z - cy]) + nv (xb.take (k + 1)) := by
            rw [nv_snoc, hxl, hta, htb]
            exact sub_step hnv (by omega)
          have HST := Lib.hid hst2
          have hbnd : z - cy < 1000000000 := by omega
          have hsg : decide (((z : Int) - cy) < 0) = false := by simp <;> omega
          have hz0 : (0 : Int) ≤ (z : Int) - cy := by omega
          have hz1 : (z : Int) - cy < 1000000000 := by omega
          have heq : ((z : Int) - cy : Int) = ((z - cy : Nat) : Int) := by omega
          have HQ := Lib.hid heq
          clear hz hst2 hta htb hnv hxl hxs hO heq
          go_wp2_with (first
            | (at_builtin; go_must (refine wpList_append_ints rfl (.tmp 39) (.tmp 42) 38 rfl w.heap.size 36 .u32 tabN u5 (zs xs) rfl (HO.out.alloc _) (wr.heap.size + 1) (some ⟨wr.heap.size, 0, none⟩) 1 [(z : Int) - cy] rfl (by exact SI.blk _ (Blk.new wr 36 _) (by simp)) (by simp; omega) (by simp; omega) ?_; intro v2 w2 hA2)))
          go_roundw
          case rel =>
            refine ⟨k + 1, 0, xs ++ [z - cy], by omega, by go_num, rfl, by omega, ?_, by rw [List.length_append, HXL.out]; rfl, ?_, HST.out, ?_⟩
            · rw [zs_one xs _ HQ.out]; exact hA2.own
            · intro a ha
              rcases List.mem_append.1 ha with ha | ha
              · exact HXS.out a ha
              · simp at ha; omega
            · exact hA2.below (hU.alloc hus _) (HO.out.alloc _) (by simp; omega)
          case measure => simp [intOf]; omega
    · have hk' : k = xa.length := by omega
      subst hk'
      rw [List.take_length, List.take_of_length_le (by omega), HX.out, HY.out] at hnv
      have hv : nv xs = x - y := sub_end hnv (by have := nv_lt xs HXS.out; rwa [hxl] at this) HYX.out hcy
      obtain ⟨A2, c2, hv2, hc2, hm2, sA2, hO2⟩ := HO.out.form
      rw [zs_length] at hv2 hc2
      obtain ⟨T1, T2⟩ := trim_reads sA2 HXS.out
      rw [hv] at T1 T2
      have HT := trim_any A2 c2 xs wr.heap.size wr sA2 hc2 (by simpa [maxLen] using hm2) HXS.out
      rw [hv] at HT
      have H1 := Lib.hid HT
      have H2 := Lib.hid T1
      have H3 := Lib.hid (And.intro hm2 (Nat.le_trans T2 hc2))
      rw [hv2]
      clear HT T1 T2 sA2 hv hO2 hm2 hc2 hnv hxl hxs hO
      go_wp2_with fail
      refine H1.out.mono ?_
      rintro e w2 ⟨rfl, rfl⟩
      go_wp2_with fail
      go_ret
      exact ⟨A2, c2, rfl, H3.out.2, by simpa [maxLen] using H3.out.1, H2.out, hU⟩
end Go.Proofs.Ytoedmnalnpmleaa
