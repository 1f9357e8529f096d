/-
  The contracts of rational.multiplySmall, rational.divideSmall.
-/
import Derived.Test.YtoedmnalnpmleaaNMul
namespace Go.Proofs.Ytoedmnalnpmleaa
open Go.RowKit

/-- A call returns a new block of n limbs that denote x. -/
def RetB (w0 : World) (n x : Nat) (e : Ending) (w' : World) : Prop :=
  ∃ o : List Nat, e = .returned (.slice (some ⟨w0.heap.size, 0, none⟩) n n) ∧ o.length = n ∧ (∀ a ∈ o, a < 1000000000) ∧ nv o = x ∧ BN w' w0.heap.size o ∧ Up w0 w'

set_option maxHeartbeats 3200000 in
theorem multiplySmall_any (A : Option Addr) (cap x m : Nat) (w : World) (ha : NS w A x) (hla : ln x ≤ 17179869184) (hm : m < 1000000000) :
    Calls Try.prog 41 #[.slice A (ln x) cap, .int .u64 m] w (RetB w (ln x + 1) (x * m)) := by
  unfold NS at ha
  have hnx := nv_digs x
  have hltx := digs_lt x
  have hlnx : (digs x).length = ln x := rfl
  obtain ⟨xa, hxa⟩ : ∃ ns, ns = digs x := ⟨_, rfl⟩
  rw [← hxa] at ha hnx hltx hlnx
  rw [← hlnx] at hla ⊢
  clear hxa hlnx
  have HX := Lib.hid hnx
  have HLX := Lib.hid hltx
  clear hnx hltx
  go_enter Try.func41, Try.ntmps41
  go_wp2_with (first
    | (at_make; go_must (refine wpList_makeB rfl (.tmp 11) (.tmp 11) 38 rfl 36 .u32 tabN .i64 .i64 _ _ (xa.length + 1) rfl rfl (by omega) (by omega) (by omega) ?_; intro w1 hB1 hU1)))
  obtain ⟨g, hg⟩ : ∃ g, g = w.heap.size := ⟨_, rfl⟩
  rw [← hg] at hB1
  have hgw : w.heap.size ≤ g := by omega
  have HG := Lib.hid hg
  rw [← hg]
  have HB1 := Lib.hid (BN.zeros hB1)
  clear hB1 hg
  go_loopw [6, 15] (fun c i wr => ∃ (k cy : Nat) (o : List Nat), k ≤ xa.length ∧ i = .int .i64 k ∧ c = .int .u64 cy ∧ cy < 1000000000 ∧ o.length = xa.length + 1 ∧ (∀ a ∈ o, a < 1000000000) ∧ nv o + 1000000000 ^ k * cy = nv (xa.take k) * m ∧
      (∀ j (h : j < o.length), k ≤ j → o[j] = 0) ∧ BN wr g o ∧ Up w wr) (fun _ i _ => xa.length - (intOf i).toNat)
  case atStart =>
    refine ⟨0, 0, List.replicate (xa.length + 1) 0, Nat.zero_le _, rfl, rfl, by omega, by simp, ?_, ?_, ?_, HB1.out, hU1⟩
    · intro a ha; simp at ha; omega
    · have := nv_zeros [] (xa.length + 1); simp only [List.nil_append] at this; rw [this]; simp [nv]
    · intro j hj _; simp
  case round =>
    obtain ⟨k, cy, o, hk, rfl, rfl, hcy, hol, hos, hnv, hoz, hB, hU⟩ := hrel
    have hus := hU.size
    by_cases hlt : k < xa.length
    · obtain ⟨ad, hAd, had, hcell⟩ := (ha.below hU).nat hlt
      subst hAd
      have ha9 := HLX.out xa[k] (List.getElem_mem hlt)
      have hta := nv_take xa k hlt
      have hp : k < o.length := by omega
      have hst := small_step (a := xa[k]) hp (hoz k hp (Nat.le_refl _)) hnv rfl
      rw [← hta] at hst
      have hco := hB.cell hp
      have hfo := hB.frozen k
      obtain ⟨z, hz⟩ : ∃ z, z = xa[k] := ⟨_, rfl⟩
      rw [← hz] at hcell ha9 hst
      have hmc := mul_carry (q := 0) ha9 hm (by omega) hcy
      simp only [Nat.add_zero] at hmc
      have HST := Lib.hid hst
      have HBS := Lib.hid hB
      have HMO := Lib.hid (show ((z : Int) * m + cy) % 1000000000 = (((z * m + cy) % 1000000000 : Nat) : Int) from by rw [← Int.natCast_mul]; omega)
      have HCY := Lib.hid (show (((z * m + cy) / 1000000000 : Nat) : Int) = ((z : Int) * m + cy) / 1000000000 from by rw [← Int.natCast_mul]; omega)
      have HOL2 := Lib.hid hol
      have HOS2 := Lib.hid (set_lt (p := k) (v := (z * m + cy) % 1000000000) hos (by omega))
      have HOZ2 : Hid (∀ t (h : t < (o.set k ((z * m + cy) % 1000000000)).length), k + 1 ≤ t → (o.set k ((z * m + cy) % 1000000000))[t] = 0) := by
        intro t h ht
        rw [List.getElem_set, if_neg (by omega)]
        exact hoz t (by simpa using h) (by omega)
      have hzu : (0 : Int) ≤ (z : Int) * m ∧ (z : Int) * m ≤ 999999998000000001 := by
        rw [← Int.natCast_mul]; omega
      have hmc2 := hmc.2
      have i1 : (k : Int) < (xa.length : Int) + 1 := by omega
      clear hz hst hta hnv hol hos hoz hB hmc
      go_wp2_with fail
      go_roundw
      case rel =>
        refine ⟨k + 1, (z * m + cy) / 1000000000, o.set k ((z * m + cy) % 1000000000), by omega, by go_num, by rw [HCY.out], hmc2, by rw [List.length_set]; exact HOL2.out, HOS2.out, HST.out, HOZ2.out, HBS.out.set_ k _ HMO.out, hU.setCell (by simp; omega) _⟩
      case measure => simp [intOf]; omega
    · have hk' : k = xa.length := by omega
      subst hk'
      rw [List.take_length, HX.out] at hnv
      have hp : xa.length < o.length := by omega
      have hend := small_end hp (hoz _ hp (Nat.le_refl _)) hnv
      have hco := hB.cell hp
      have hfo := hB.frozen xa.length
      have HE := Lib.hid hend
      have HBS := Lib.hid hB
      have HOL2 := Lib.hid hol
      have HOS2 := Lib.hid (set_lt (p := xa.length) (v := cy) hos hcy)
      have i1 : (xa.length : Int) < (xa.length : Int) + 1 := by omega
      clear hend hnv hol hos hoz hB
      go_wp2_with fail
      go_ret
      exact ⟨o.set xa.length cy, by rw [HG.out]; rfl, by rw [List.length_set]; exact HOL2.out, HOS2.out, HE.out, by rw [← HG.out]; exact HBS.out.set_ _ _ rfl, hU.setCell (by simp; omega) _⟩

/-- A call returns limbs and a word. -/
def RetNW (w0 : World) (x r : Nat) (e : Ending) (w' : World) : Prop := ∃ A c, e = .returned (.tuple #[.slice A (ln x) c, .int .u64 r]) ∧ ln x ≤ c ∧ c ≤ 9223372036854775807 ∧ NS w' A x ∧ Up w0 w'

set_option maxHeartbeats 3200000 in
theorem divideSmall_any (A : Option Addr) (cap x m : Nat) (w : World) (ha : NS w A x) (hla : ln x ≤ 17179869184) (hm : m < 1000000000) (hm0 : 0 < m) :
    Calls Try.prog 40 #[.slice A (ln x) cap, .int .u64 m] w (RetNW w (x / m) (x % m)) := by
  unfold NS at ha
  have hnx := nv_digs x
  have hltx := digs_lt x
  have hlnx : (digs x).length = ln x := rfl
  obtain ⟨xa, hxa⟩ : ∃ ns, ns = digs x := ⟨_, rfl⟩
  rw [← hxa] at ha hnx hltx hlnx
  rw [← hlnx] at hla ⊢
  clear hxa hlnx
  have HX := Lib.hid hnx
  have HLX := Lib.hid hltx
  have hm1 : (1 : Int) ≤ m := by omega
  clear hnx hltx
  go_enter Try.func40, Try.ntmps40
  go_wp2_with (first
    | (at_make; go_must (refine wpList_makeB rfl (.tmp 11) (.tmp 11) 38 rfl 36 .u32 tabN .i64 .i64 _ _ xa.length rfl rfl (by omega) (by omega) (by omega) ?_; intro w1 hB1 hU1)))
  obtain ⟨g, hg⟩ : ∃ g, g = w.heap.size := ⟨_, rfl⟩
  rw [← hg] at hB1
  have hgw : w.heap.size ≤ g := by omega
  rw [← hg]
  have HB1 := Lib.hid (BN.zeros hB1)
  clear hB1 hg
  go_loopw [7, 8] (fun c i wr => ∃ (k r : Nat) (o : List Nat), k ≤ xa.length ∧ i = .int .i64 ((k : Int) - 1) ∧ c = .int .u64 r ∧ r < m ∧ o.length = xa.length ∧ (∀ a ∈ o, a < 1000000000) ∧ nv (xa.drop k) = m * nv (o.drop k) + r ∧ BN wr g o ∧ Up w wr) (fun _ i _ => (intOf i + 1).toNat)
  case atStart =>
    refine ⟨xa.length, 0, List.replicate xa.length 0, Nat.le_refl _, rfl, rfl, hm0, by simp, ?_, ?_, HB1.out, hU1⟩
    · intro a ha; simp at ha; omega
    · simp [nv]
  case round =>
    obtain ⟨k, r, o, hk, rfl, rfl, hr, hol, hos, hnv, hB, hU⟩ := hrel
    have hus := hU.size
    by_cases hk0 : k = 0
    · subst hk0
      rw [List.drop_zero, List.drop_zero, HX.out] at hnv
      obtain ⟨hq, hrr⟩ := divs_end hnv hr
      have sA2 := hB.si
      obtain ⟨T1, T2⟩ := trim_reads sA2 hos
      rw [hq] at T1 T2
      have HT := trim_any _ xa.length o wr.heap.size wr sA2 (by omega) (by omega) hos
      rw [hq, hol] at HT
      rw [hol] at T2
      have H1 := Lib.hid HT
      have H2 := Lib.hid T1
      have H3 := Lib.hid T2
      have H4 := Lib.hid hrr
      clear HT T1 T2 sA2 hnv hol hos hB hq hrr
      go_wp2_with fail
      refine H1.out.mono ?_
      rintro e w2 ⟨rfl, rfl⟩
      go_wp2_with fail
      go_ret2
      rw [← H4.out]
      exact ⟨_, _, rfl, H3.out, by omega, H2.out, hU⟩
    · obtain ⟨j, rfl⟩ : ∃ j, k = j + 1 := ⟨k - 1, by omega⟩
      have hja : j < xa.length := by omega
      have hjo : j < o.length := by omega
      obtain ⟨ad, hAd, had, hcell⟩ := (ha.below hU).nat hja
      subst hAd
      have ha9 := HLX.out xa[j] (List.getElem_mem hja)
      have hst := divs_step hja hjo hnv rfl
      have hco := hB.cell hjo
      have hfo := hB.frozen j
      obtain ⟨z, hz⟩ : ∃ z, z = xa[j] := ⟨_, rfl⟩
      rw [← hz] at hcell ha9 hst
      have hlt := divs_lt hr ha9
      have HST := Lib.hid hst
      have HBS := Lib.hid hB
      have HOL2 := Lib.hid hol
      have HOS2 := Lib.hid (set_lt (p := j) (v := (r * 1000000000 + z) / m) hos hlt)
      have HML := Lib.hid (Nat.mod_lt (r * 1000000000 + z) hm0)
      have HQ := Lib.hid (show ((r : Int) * 1000000000 + z) / m = (((r * 1000000000 + z) / m : Nat) : Int) from by simp)
      have HR := Lib.hid (show ((r : Int) * 1000000000 + z) % m = (((r * 1000000000 + z) % m : Nat) : Int) from by simp)
      have q0 : (0 : Int) ≤ ((r : Int) * 1000000000 + z) / m := by rw [HQ.out]; exact Int.natCast_nonneg _
      have q1 : ((r : Int) * 1000000000 + z) / m < 1000000000 := by rw [HQ.out]; exact Int.ofNat_lt.2 hlt
      have kk : ((j + 1 : Nat) : Int) - 1 = (j : Int) := by omega
      have ki1 : (0 : Int) ≤ j := by omega
      have ki2 : (j : Int) < xa.length := by omega
      rw [kk]
      clear hz hst hnv hol hos hB hlt hk0 kk
      go_wp2_with fail
      go_roundw
      case rel =>
        refine ⟨j, (r * 1000000000 + z) % m, o.set j ((r * 1000000000 + z) / m), by omega, by go_num, by rw [HR.out], HML.out, by rw [List.length_set]; exact HOL2.out, HOS2.out, HST.out, HBS.out.set_ j _ HQ.out, hU.setCell (by simp; omega) _⟩
      case measure => simp [intOf] <;> omega
end Go.Proofs.Ytoedmnalnpmleaa
