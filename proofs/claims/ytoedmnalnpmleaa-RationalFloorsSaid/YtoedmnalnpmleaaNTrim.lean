/-
  The contracts of rational.nat.trim, rational.normal.
-/
import Derived.Test.YtoedmnalnpmleaaNWords
namespace Go.Proofs.Ytoedmnalnpmleaa
open Go.RowKit

set_option maxHeartbeats 1600000 in
/-- trim cuts the zeros at the end off: the length is that of the canonical limbs. -/
theorem trim_any (A : Option Addr) (cap : Nat) (ns : List Nat) (B : Nat) (w : World) (hr : SI w B .u32 A (zs ns)) (hc : ns.length ≤ cap) (hm : cap ≤ 9223372036854775807) (hlt : ∀ a ∈ ns, a < 1000000000) :
    Calls Try.prog 35 #[.slice A ns.length cap] w fun e w' => e = .returned (.slice A (ln (nv ns)) cap) ∧ w = w' := by
  have HLT := Lib.hid hlt
  clear hlt
  go_enter Try.func35, Try.ntmps35
  go_wp2_with fail
  go_loop [3] (fun i => ∃ k : Nat, k ≤ ns.length ∧ i = .int .i64 k ∧ ∀ j (hj : j < ns.length), k ≤ j → ns[j] = 0) (fun i => (intOf i).toNat)
  case atStart => exact ⟨ns.length, Nat.le_refl _, rfl, fun j hj h => absurd hj (by omega)⟩
  case round =>
    obtain ⟨k, hk, rfl, h0⟩ := hrel
    by_cases hk0 : k = 0
    · subst hk0
      have e := digs_trim HLT.out 0 hk h0 (.inl rfl)
      have hz : ln (nv ns) = 0 := by simp [ln, e]
      have HZ := Lib.hid hz
      clear h0 e hz
      go_wp2_with fail
      go_ret
      rw [HZ.out]
      exact ⟨rfl, rfl⟩
    · obtain ⟨m, rfl⟩ : ∃ m, k = m + 1 := ⟨k - 1, by omega⟩
      obtain ⟨ad, rfl, had, hcell⟩ := hr.nat (k := m) (by omega)
      by_cases hz : ns[m] = 0
      · rw [hz] at hcell
        have H0 : Hid (∀ j (hj : j < ns.length), m ≤ j → ns[j] = 0) := fun j hj h => by
          by_cases e : j = m
          · subst e; exact hz
          · exact h0 j hj (by omega)
        clear h0 hz
        have kk : ((m + 1 : Nat) : Int) - 1 = (m : Int) := by omega
        go_wp2_with fail
        go_round
        case rel => exact ⟨m, by omega, rfl, H0.out⟩
        case measure => simp [intOf]
      · have e := digs_trim HLT.out (m + 1) hk h0 (.inr ⟨by omega, by simpa using hz⟩)
        have hl : ln (nv ns) = m + 1 := by rw [ln, e, List.length_take]; omega
        have HL := Lib.hid hl
        obtain ⟨z, hzz⟩ : ∃ z, z = ns[m] := ⟨_, rfl⟩
        rw [← hzz] at hcell hz
        have hb : ((z : Int) == 0) = false := by simp <;> omega
        clear h0 e hl hzz hz
        have kk : ((m + 1 : Nat) : Int) - 1 = (m : Int) := by omega
        have kc : ((m + 1 : Nat) : Int) ≤ cap := by omega
        go_wp2_with fail
        go_ret
        rw [HL.out]
        exact ⟨rfl, rfl⟩

/-- What trim leaves reads as the canonical limbs. -/
theorem trim_reads {w : World} {B : Nat} {A : Option Addr} {ns : List Nat} (h : SI w B .u32 A (zs ns)) (hlt : ∀ a ∈ ns, a < 1000000000) : SI w B .u32 A (zs (digs (nv ns))) ∧ ln (nv ns) ≤ ns.length := by
  have key : ∃ n, n ≤ ns.length ∧ (∀ j (hj : j < ns.length), n ≤ j → ns[j] = 0) ∧ (n = 0 ∨ ∃ h : n - 1 < ns.length, ns[n - 1] ≠ 0) := by
    suffices H : ∀ k, k ≤ ns.length → (∀ j (hj : j < ns.length), k ≤ j → ns[j] = 0) → ∃ n, n ≤ ns.length ∧ (∀ j (hj : j < ns.length), n ≤ j → ns[j] = 0) ∧ (n = 0 ∨ ∃ h : n - 1 < ns.length, ns[n - 1] ≠ 0) from
      H ns.length (Nat.le_refl _) (fun j hj h => absurd hj (by omega))
    intro k
    induction k with
    | zero => exact fun hk h0 => ⟨0, hk, h0, .inl rfl⟩
    | succ k ih =>
      intro hk h0
      by_cases e : ns[k]'(by omega) = 0
      · refine ih (by omega) (fun j hj h => ?_)
        by_cases e' : j = k
        · subst e'; exact e
        · exact h0 j hj (by omega)
      · exact ⟨k + 1, hk, h0, .inr ⟨by omega, by simpa using e⟩⟩
  obtain ⟨n, h1, h2, h3⟩ := key
  have e := digs_trim hlt n h1 h2 h3
  rw [e, ln, e, zs_take]
  exact ⟨h.take n, by rw [List.length_take]; omega⟩

theorem carry_lt {a c : Nat} (ha : a < 4294967296) (hc : c ≤ 4) : (a + c) / 1000000000 ≤ 4 := by omega

set_option maxHeartbeats 3200000 in
theorem normal_any (A : Option Addr) (cap : Nat) (ns : List Nat) (B : Nat) (w : World) (hr : SI w B .u32 A (zs ns)) (hB : B ≤ w.heap.size) (h32 : ∀ a ∈ ns, a < 4294967296) (hlen : ns.length ≤ 17179869184) :
    Calls Try.prog 34 #[.slice A ns.length cap] w (RetN w (nv ns)) := by
  have H32 := Lib.hid h32
  clear h32
  go_enter Try.func34, Try.ntmps34
  go_wp2_with (first
    | (at_make; refine wpList_make0 rfl (.const (.int .i64 0)) (.tmp 9) 38 rfl w.heap.size 36 .u32 tabN .i64 .i64 _ (ns.length + 1) rfl rfl (by omega) (by omega) (Nat.le_refl _) ?_; intro w1 hO1 hU1))
  have HO1 := Lib.hid hO1
  clear hO1
  go_loopw [3, 4, 13] (fun v c i wr => ∃ (k : Nat) (cy : Nat) (xs : List Nat), k ≤ ns.length ∧ i = .int .i64 k ∧ c = .int .u64 cy ∧ cy ≤ 4 ∧ OI wr w.heap.size 36 .u32 v (zs xs) ∧ xs.length = k ∧ (∀ a ∈ xs, a < 1000000000) ∧
      nv xs + 1000000000 ^ k * cy = nv (ns.take k) ∧ Up w wr) (fun _ _ i _ => ns.length - (intOf i).toNat)
  case atStart => exact ⟨0, 0, [], Nat.zero_le _, rfl, rfl, by omega, HO1.out, rfl, by simp, by simp [nv], hU1⟩
  case round =>
    obtain ⟨k, cy, xs, hk, rfl, rfl, hcy, hO, hxl, hxs, hnv, hU⟩ := hrel
    by_cases hlt : k < ns.length
    · obtain ⟨ad, rfl, had, hcell⟩ := (hr.below (hU.mono hB)).nat hlt
      have h32 := H32.out ns[k] (List.getElem_mem hlt)
      obtain ⟨z, hz⟩ : ∃ z, z = ns[k] := ⟨_, rfl⟩
      rw [← hz] at hcell h32
      have hst := carry_step _ _ z cy (z + cy) k hnv rfl
      rw [hz, ← nv_take ns k hlt, ← hz] at hst
      have HST := Lib.hid hst
      have HXL := Lib.hid hxl
      have HXS := Lib.hid hxs
      have hcl := carry_lt h32 hcy
      have HO := Lib.hid hO
      have hus := hU.size
      clear hz hst hnv hxl hxs hO
      go_wp2_with (first
        | (at_builtin; go_must (refine wpList_append_ints rfl (.tmp 23) (.tmp 27) 38 rfl w.heap.size 36 .u32 tabN u3 (zs xs) rfl (HO.out.alloc _) (wr.heap.size + 1) (some ⟨wr.heap.size, 0, none⟩) 1 [((z : Int) + cy) % 1000000000] rfl (by exact SI.blk _ (Blk.new wr 36 _) (by simp)) (by have := HXL.out; simp; omega) (by simp; omega) ?_; intro v2 w2 hA2)))
      go_roundw
      case rel =>
        refine ⟨k + 1, (z + cy) / 1000000000, xs ++ [(z + cy) % 1000000000], by omega, by go_num, by go_num, hcl, ?_, by rw [List.length_append, HXL.out]; rfl, ?_, ?_, ?_⟩
        · rw [zs_one xs _ (z := ((z : Int) + cy) % 1000000000) (by omega)]; exact hA2.own
        · intro a ha
          rcases List.mem_append.1 ha with ha | ha
          · exact HXS.out a ha
          · simp at ha; omega
        · rw [nv_snoc, HXL.out]; exact HST.out
        · exact hA2.below (hU.alloc hus _) (HO.out.alloc _) (by simp; omega)
      case measure => simp [intOf]; omega
    · have hk' : k = ns.length := by omega
      subst hk'
      rw [List.take_length] at hnv
      have hus := hU.size
      have HO := Lib.hid hO
      have HXL := Lib.hid hxl
      have hxl1 : xs.length ≤ 17179869184 := by omega
      have HXS := Lib.hid hxs
      have HNV := Lib.hid hnv
      clear hnv hxl hxs hO
      by_cases hc0 : cy = 0
      · subst hc0
        have hnv2 : nv xs = nv ns := by have := HNV.out; simpa using this
        obtain ⟨A2, c2, hv2, hc2, hm2, sA2, hO2⟩ := HO.out.form
        rw [zs_length] at hv2 hc2
        obtain ⟨T1, T2⟩ := trim_reads sA2 HXS.out
        rw [hnv2] at T1 T2
        have HT := trim_any A2 c2 xs wr.heap.size wr sA2 hc2 (by simpa [maxLen] using hm2) HXS.out
        rw [hnv2] at HT
        have H1 := Lib.hid HT
        have H2 := Lib.hid T1
        have H3 := Lib.hid (And.intro hm2 (Nat.le_trans T2 hc2))
        have hh : decide ((0 : Int) < 0) = false := by simp
        rw [hv2]
        clear HT T1 T2 sA2 hnv2 hO2 hm2 hc2
        go_wp2_with fail
        refine H1.out.mono ?_
        rintro e w2 ⟨rfl, rfl⟩
        go_wp2_with fail
        go_ret
        exact ⟨A2, c2, rfl, H3.out.2, by simpa [maxLen] using H3.out.1, H2.out, hU⟩
      · have hc1 : decide ((0 : Int) < cy) = true := by simp; omega
        go_wp2_with (first
          | (at_builtin; go_must (refine wpList_append_ints rfl (.tmp 34) (.tmp 37) 38 rfl w.heap.size 36 .u32 tabN u3 (zs xs) rfl (HO.out.alloc _) (wr.heap.size + 1) (some ⟨wr.heap.size, 0, none⟩) 1 [(cy : Int)] rfl (by exact SI.blk _ (Blk.new wr 36 _) (by simp)) (by simp; omega) (by simp; omega) ?_; intro v2 w2 hA2; obtain ⟨A2, c2, hv2, hc2, hm2, sA2, hO2⟩ := hA2.own.form; rw [hv2])))
        rw [← zs_one xs cy rfl] at sA2
        have hall : ∀ a ∈ xs ++ [cy], a < 1000000000 := by
          intro a ha
          rcases List.mem_append.1 ha with ha | ha
          · exact HXS.out a ha
          · simp at ha; omega
        have hnv2 : nv (xs ++ [cy]) = nv ns := by rw [nv_snoc, HXL.out]; exact HNV.out
        obtain ⟨T1, T2⟩ := trim_reads sA2 hall
        have hc3 : (xs ++ [cy]).length ≤ c2 := by simpa [zs] using hc2
        have HT := trim_any A2 c2 (xs ++ [cy]) w2.heap.size w2 sA2 hc3 (by simpa [maxLen] using hm2) hall
        rw [hnv2] at T1 T2 HT
        rw [List.length_append] at HT
        refine HT.mono ?_
        have H2 := Lib.hid T1
        have H3 := Lib.hid (And.intro hm2 (Nat.le_trans T2 hc3))
        have hb2 : Up w w2 := hA2.below (hU.alloc hus _) (HO.out.alloc _) (by simp; omega)
        clear HT T1 T2 hnv2 hO2 hm2 hc2 hc3 hA2 sA2 hall
        rintro e w3 ⟨rfl, rfl⟩
        go_wp2_with fail
        go_ret
        exact ⟨A2, c2, rfl, H3.out.2, by simpa [maxLen] using H3.out.1, H2.out, hb2⟩
end Go.Proofs.Ytoedmnalnpmleaa
