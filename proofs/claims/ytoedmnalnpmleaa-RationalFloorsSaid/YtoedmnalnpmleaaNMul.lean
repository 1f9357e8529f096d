/-
  The contract of rational.multiply.
-/
import Derived.Test.YtoedmnalnpmleaaNSub
namespace Go.Proofs.Ytoedmnalnpmleaa
open Go.RowKit

set_option maxHeartbeats 6400000 in
theorem multiply_any (A : Option Addr) (cap x : Nat) (B : Option Addr) (dap y : Nat) (w : World) (ha : NS w A x) (hb : NS w B y) (hla : ln x + ln y ≤ 17179869184) :
    Calls Try.prog 25 #[.slice A (ln x) cap, .slice B (ln y) dap] w (RetN w (x * y)) := by
  by_cases hx0 : ln x = 0
  · have hxy : x * y = 0 := by rw [ln_eq_zero.1 hx0, Nat.zero_mul]
    rw [hxy, hx0]
    clear hxy ha hb
    go_enter Try.func25, Try.ntmps25
    go_wp2_with fail
    go_ret
    exact RetN.nil (Up.refl _)
  by_cases hy0 : ln y = 0
  · have hxy : x * y = 0 := by rw [ln_eq_zero.1 hy0, Nat.mul_zero]
    have hd : (((ln x : Nat) : Int) == 0) = false := by simp; omega
    rw [hxy, hy0]
    clear hxy ha hb hx0
    go_enter Try.func25, Try.ntmps25
    go_wp2_with fail
    go_ret
    exact RetN.nil (Up.refl _)
  unfold NS at ha hb
  have hnx := nv_digs x
  have hny := nv_digs y
  have hltx := digs_lt x
  have hlty := digs_lt y
  have hlnx : (digs x).length = ln x := rfl
  have hlny : (digs y).length = ln y := rfl
  obtain ⟨xa, hxa⟩ : ∃ ns, ns = digs x := ⟨_, rfl⟩
  obtain ⟨xb, hxb⟩ : ∃ ns, ns = digs y := ⟨_, rfl⟩
  rw [← hxa] at ha hnx hltx hlnx
  rw [← hxb] at hb hny hlty hlny
  rw [← hlnx] at hla hx0 ⊢
  rw [← hlny] at hla hy0 ⊢
  clear hxa hxb hlnx hlny
  have HX := Lib.hid hnx
  have HY := Lib.hid hny
  have HLX := Lib.hid hltx
  have HLY := Lib.hid hlty
  have hd : (((xa.length : Nat) : Int) == 0) = false := by simp; exact List.ne_nil_of_length_pos (by omega)
  have hd' : (((xb.length : Nat) : Int) == 0) = false := by simp; exact List.ne_nil_of_length_pos (by omega)
  have hxp : 0 < xa.length := by omega
  have hyp : 0 < xb.length := by omega
  clear hnx hny hltx hlty hx0 hy0
  go_enter Try.func25, Try.ntmps25
  go_wp2_with (first
    | (at_make; go_must (refine wpList_makeB rfl (.tmp 22) (.tmp 22) 38 rfl 36 .u32 tabN .i64 .i64 _ _ (xa.length + xb.length) rfl rfl (by omega) (by omega) (by omega) ?_; intro w1 hB1 hU1)))
  obtain ⟨g, hg⟩ : ∃ g, g = w.heap.size := ⟨_, rfl⟩
  rw [← hg] at hB1
  have hgw : w.heap.size ≤ g := by omega
  rw [← hg]
  have HB1 := Lib.hid (BN.zeros hB1)
  clear hB1 hg
  go_loopw [26] (fun i wr => ∃ (k : Nat) (o : List Nat), k ≤ xa.length ∧ i = .int .i64 k ∧ o.length = xa.length + xb.length ∧ (∀ a ∈ o, a < 1000000000) ∧ nv o = nv (xa.take k) * y ∧
      (∀ j (h : j < o.length), k + xb.length ≤ j → o[j] = 0) ∧ BN wr g o ∧ Up w wr) (fun i _ => xa.length - (intOf i).toNat)
  case atStart =>
    refine ⟨0, List.replicate (xa.length + xb.length) 0, Nat.zero_le _, rfl, by simp, ?_, ?_, ?_, HB1.out, hU1⟩
    · intro a ha; simp at ha; omega
    · have := nv_zeros [] (xa.length + xb.length); simp [nv] at this; simp [nv, this]
    · intro j hj _; simp
  case round =>
    obtain ⟨k, o, hk, rfl, hol, hos, hnv, hoz, hB, hU⟩ := hrel
    have hus := hU.size
    by_cases hlt : k < xa.length
    · obtain ⟨ad, hAd, had, hcell⟩ := (ha.below hU).nat hlt
      subst hAd
      have ha9 := HLX.out xa[k] (List.getElem_mem hlt)
      have hta := nv_take xa k hlt
      obtain ⟨z, hz⟩ : ∃ z, z = xa[k] := ⟨_, rfl⟩
      rw [← hz] at hcell ha9 hta
      have HTA := Lib.hid hta
      have HOL := Lib.hid hol
      have HOS := Lib.hid hos
      have HNV := Lib.hid hnv
      have HOZ := Lib.hid hoz
      have HBB := Lib.hid hB
      obtain ⟨wo, hwo⟩ : ∃ wo : World, wo = wr := ⟨_, rfl⟩
      rw [← hwo] at hU hus hcell HBB
      rw [← hwo]
      clear hz hta hol hos hnv hoz hB hwo
      go_wp2_with fail
      go_loopw [7, 31] (fun c j wr => ∃ (m cy : Nat) (o : List Nat), m ≤ xb.length ∧ j = .int .i64 m ∧ c = .int .u64 cy ∧ cy < 1000000000 ∧ o.length = xa.length + xb.length ∧ (∀ a ∈ o, a < 1000000000) ∧
          nv o + 1000000000 ^ (k + m) * cy = nv (xa.take k) * y + z * (1000000000 ^ k * nv (xb.take m)) ∧ (∀ t (h : t < o.length), k + xb.length ≤ t → o[t] = 0) ∧ BN wr g o ∧ Up w wr) (fun _ j _ => xb.length - (intOf j).toNat)
      case atStart => exact ⟨0, 0, o, Nat.zero_le _, rfl, rfl, by omega, HOL.out, HOS.out, by simp [nv, HNV.out], HOZ.out, HBB.out, hU⟩
      case round =>
        obtain ⟨m, cy, o2, hm, rfl, rfl, hcy, hol, hos, hnv, hoz, hB, hU2⟩ := hrel
        have hus2 := hU2.size
        by_cases hlm : m < xb.length
        · obtain ⟨ae, hAe, hae, hcb⟩ := (hb.below hU2).nat hlm
          subst hAe
          have hca := (hU2.cell (p := ad.add k) (by rw [block_of_add]; exact had)).trans ((hU.cell (p := ad.add k) (by rw [block_of_add]; exact had)).symm.trans hcell)
          have hb9 := HLY.out xb[m] (List.getElem_mem hlm)
          have hp : k + m < o2.length := by omega
          have htb := nv_take xb m hlm
          have hst := mul_step (a := z) (b := xb[m]) hp hnv rfl
          rw [← htb] at hst
          have hco := hB.cell hp
          have ho9 := hos o2[k + m] (List.getElem_mem hp)
          have hfo := hB.frozen (k + m)
          obtain ⟨u, hu⟩ : ∃ u, u = xb[m] := ⟨_, rfl⟩
          rw [← hu] at hcb hb9 hst
          obtain ⟨q, hq⟩ : ∃ q, q = o2[k + m] := ⟨_, rfl⟩
          rw [← hq] at hco ho9 hst
          have hmc := mul_carry ha9 hb9 ho9 hcy
          have HST := Lib.hid hst
          have HBS := Lib.hid hB
          have HMO := Lib.hid (show ((z : Int) * u + q + cy) % 1000000000 = (((z * u + q + cy) % 1000000000 : Nat) : Int) from by rw [← Int.natCast_mul]; omega)
          have HOL2 := Lib.hid hol
          have HOS2 := Lib.hid (set_lt (p := k + m) (v := (z * u + q + cy) % 1000000000) hos (by omega))
          have HOZ2 : Hid (∀ t (h : t < (o2.set (k + m) ((z * u + q + cy) % 1000000000)).length), k + xb.length ≤ t → (o2.set (k + m) ((z * u + q + cy) % 1000000000))[t] = 0) := by
            intro t h ht
            rw [List.getElem_set, if_neg (by omega)]
            exact hoz t (by simpa using h) ht
          have hzu : (0 : Int) ≤ (z : Int) * u ∧ (z : Int) * u ≤ 999999998000000001 := by
            rw [← Int.natCast_mul]; omega
          have HCY := Lib.hid (show (((z * u + q + cy) / 1000000000 : Nat) : Int) = ((z : Int) * u + q + cy) / 1000000000 from by rw [← Int.natCast_mul]; omega)
          have hmc2 := hmc.2
          have e1 : IntKind.i64.wrap ((k : Int) + m) = (k : Int) + m := IntWalk.i64_in _ (by omega)
          have e2 : (0 : Int) ≤ (k : Int) + m := by omega
          have e3 : ((k : Int) + m).toNat = k + m := by omega
          have e4 : (k : Int) + m < (xa.length : Int) + xb.length := by omega
          have e5 : IntKind.u64.wrap ((z : Int) * u) = (z : Int) * u := IntWalk.u64_in _ (by omega)
          have e6 : IntKind.u64.wrap ((z : Int) * u + q) = (z : Int) * u + q := IntWalk.u64_in _ (by omega)
          have e7 : IntKind.u64.wrap ((z : Int) * u + q + cy) = (z : Int) * u + q + cy := IntWalk.u64_in _ (by omega)
          have i1 : (k : Int) < xa.length := by omega
          have i2 : (m : Int) < xb.length := by omega
          have i3 : (0 : Int) ≤ k := by omega
          have i4 : (0 : Int) ≤ m := by omega
          clear hu hq hst htb hnv hol hos hoz hB hmc
          go_wp2_with fail
          go_quiet (fail)
          clear e1 e3 e5 e6 e7
          go_wp2_with fail
          go_roundw
          case rel =>
            refine ⟨m + 1, (z * u + q + cy) / 1000000000, o2.set (k + m) ((z * u + q + cy) % 1000000000), by omega, by go_num, by rw [HCY.out], hmc2, by rw [List.length_set]; exact HOL2.out, HOS2.out, HST.out, HOZ2.out, ?_, ?_⟩
            · exact (HBS.out.drewN _).set_ (k + m) _ HMO.out
            · exact (below_drewN hU2 _).setCell (by simp; omega) _
          case measure => simp [intOf]; omega
        · have hm' : m = xb.length := by omega
          subst hm'
          rw [List.take_length, HY.out] at hnv
          have hp : k + xb.length < o2.length := by omega
          have h0 := hoz (k + xb.length) hp (Nat.le_refl _)
          have hrow := mul_row hp h0 hnv
          rw [show nv (xa.take k) + 1000000000 ^ k * z = nv (xa.take (k + 1)) from HTA.out.symm] at hrow
          have hco := hB.cell hp
          have hfo := hB.frozen (k + xb.length)
          have HROW := Lib.hid hrow
          have HBS := Lib.hid hB
          have HOL2 := Lib.hid hol
          have HOS2 := Lib.hid (set_lt (p := k + xb.length) (v := cy) hos hcy)
          have HOZ2 : Hid (∀ t (h : t < (o2.set (k + xb.length) cy).length), k + 1 + xb.length ≤ t → (o2.set (k + xb.length) cy)[t] = 0) := by
            intro t h ht
            rw [List.getElem_set, if_neg (by omega)]
            exact hoz t (by simpa using h) (by omega)
          have e4 : (k : Int) + xb.length < (xa.length : Int) + xb.length := by omega
          clear hrow hnv hol hos hoz hB h0
          go_wp2_with fail
          go_roundw
          case rel =>
            refine ⟨k + 1, o2.set (k + xb.length) cy, by omega, by go_num, by rw [List.length_set]; exact HOL2.out, HOS2.out, HROW.out, HOZ2.out, ?_, ?_⟩
            · exact HBS.out.set_ (k + xb.length) _ rfl
            · exact hU2.setCell (by simp; omega) _
          case measure => simp [intOf]; omega
    · have hk' : k = xa.length := by omega
      subst hk'
      rw [List.take_length, HX.out] at hnv
      have sA2 := hB.si
      obtain ⟨T1, T2⟩ := trim_reads sA2 hos
      rw [hnv] at T1 T2
      have HT := trim_any _ (xa.length + xb.length) o wr.heap.size wr sA2 (by omega) (by omega) hos
      rw [hnv, hol] at HT
      rw [hol] at T2
      have H1 := Lib.hid HT
      have H2 := Lib.hid T1
      have H3 := Lib.hid T2
      clear HT T1 T2 sA2 hnv hol hos hoz hB
      go_wp2_with fail
      refine H1.out.mono ?_
      rintro e w2 ⟨rfl, rfl⟩
      go_wp2_with fail
      go_ret
      exact ⟨_, _, rfl, H3.out, by omega, H2.out, hU⟩
end Go.Proofs.Ytoedmnalnpmleaa
