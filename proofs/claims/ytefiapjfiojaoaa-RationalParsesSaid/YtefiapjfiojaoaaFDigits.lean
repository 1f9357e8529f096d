/-
  The contract of the document's digits: 1 to 200 digits, else it refuses.
-/
import Derived.Test.YtefiapjfiojaoaaPE
import Derived.Test.YtefiapjfiojaoaaNParse
namespace Go.Proofs.Ytefiapjfiojaoaa
open Go Go.RowKit

def SegRel (l : List UInt8) (lo m : Nat) (x i : Value) : Prop := ∃ j : Nat, lo ≤ j ∧ j ≤ m ∧ i = .int .i64 j ∧ x = .int .u32 (dval ((l.take j).drop lo) : Nat) ∧ ∀ i (hi : i < l.length), lo ≤ i → i < j → isDig l[i] = true
theorem SegRel.start (l : List UInt8) (lo m : Nat) (h : lo ≤ m) : SegRel l lo m (.int .u32 0) (.int .i64 lo) := ⟨lo, Nat.le_refl _, h, rfl, by rw [seg_self]; rfl, fun i hi h1 h2 => absurd h1 (by omega)⟩

set_option maxRecDepth 100000 in
set_option maxHeartbeats 1600000 in
theorem rDigits_any (s : ByteArray) (w : World) (hs : s.size ≤ 1000) : Calls Try.prog 12 #[.string s] w (RetPD w (pdig s.data.toList)) := by
  have hl : s.data.toList.length = s.size := (Lib.size_eq s).symm
  by_cases h0 : s.size = 0
  · rw [pdig_short (by omega)]
    have hb : decide (s.size < 1) = true := decide_eq_true (by omega)
    clear hl
    go_enter Try.func12, Try.ntmps12
    go_wp2_with fail
    go_ret2
    exact RetPD.no (Up.refl _)
  have hb0 : decide (s.size < 1) = false := decide_eq_false (by omega)
  by_cases h200 : 200 < s.size
  · rw [pdig_long (by omega)]
    have hb : decide (200 < s.size) = true := decide_eq_true (by omega)
    clear hl
    go_enter Try.func12, Try.ntmps12
    go_wp2_with fail
    go_ret2
    exact RetPD.no (Up.refl _)
  have hb1 : decide (200 < s.size) = false := decide_eq_false (by omega)
  have HL := Lib.hid hl
  have hidx : ∀ (j : Nat) (hj : j < s.data.toList.length) wx, (Instr.index 9 (.string s) (.int .i64 (j : Int))).run Try.prog wx = .ok (.int .u8 (s.data.toList[j].toNat : Int)) wx := fun j hj wx => by
    rw [hl] at hj
    rw [run_index_string wx 9 s .i64 j (by kernel_rfl), dif_pos ⟨by omega, by omega⟩]
    rfl
  have HI := Lib.hid hidx
  clear hl hidx
  go_enter Try.func12, Try.ntmps12
  go_wp2_with fail
  go_loopw [4, 5] (fun v e wr => ∃ (k : Nat) (E : Int) (xs : List Nat), e = .int .i64 E ∧ E = (s.size : Int) - 9 * k ∧ -9 < E ∧ OI wr w.heap.size 37 .u32 v (zs xs) ∧ xs.length = k ∧ (∀ a ∈ xs, a < 1000000000) ∧
    nv xs + 1000000000 ^ k * dval (s.data.toList.take E.toNat) = dval s.data.toList ∧ (∀ j (hj : j < s.data.toList.length), E.toNat ≤ j → isDig s.data.toList[j] = true) ∧ Up w wr) (fun _ e _ => (intOf e).toNat)
  case atStart => exact ⟨0, s.size, [], rfl, by omega, by omega, OI.nil_, rfl, by simp, by rw [List.take_of_length_le (by have := HL.out; omega)]; simp [nv], fun j hj h => absurd hj (by have := HL.out; omega), Up.refl _⟩
  case round =>
    obtain ⟨k, E, xs, rfl, hE, hE9, hO, hxl, hxs, hnv, hdg, hU⟩ := hrel
    by_cases hpos : 0 < E
    · obtain ⟨m, rfl⟩ : ∃ m : Nat, E = m := ⟨E.toNat, by omega⟩
      rw [Int.toNat_natCast] at hnv hdg
      have hst := Lib.hid (pd_step (by have := HL.out; omega) hnv)
      have HO := Lib.hid hO
      have HX := Lib.hid (And.intro hxl hxs)
      have HE := Lib.hid hE
      have HDG := Lib.hid hdg
      have hm1 : m ≤ 1000 := by omega
      have hle : m ≤ s.size := by omega
      clear hnv hO hxl hxs hE hE9 hdg
      have hcase : m ≤ 9 ∨ 9 < m := by omega
      rcases hcase with h9 | h9
      · have e9 : m - 9 = 0 := by omega
        have hmx : ¬ (9 < m) := by omega
        rw [e9] at hst
        go_wp2_with fail
        go_loop [6, 7] (fun x i => SegRel s.data.toList (0) (m) x i) (fun _ i => m - (intOf i).toNat)
        case atStart => exact SegRel.start _ _ _ (by omega)
        case round =>
          obtain ⟨j, hj0, hj, rfl, rfl, hsd⟩ := hrel
          have hbd := seg_bd (by have := HL.out; omega) hsd
          by_cases hjn : j < m
          · have hjs : j < s.data.toList.length := by have := HL.out; omega
            have hix := HI.out j hjs
            have hsn := seg_snoc hjs hj0
            have hx2 : dval ((s.data.toList.take j).drop (0)) ≤ 99999999 := by
              have h2 : 10 ^ (j - 0) ≤ 10 ^ 8 := Nat.pow_le_pow_right (by omega) (by omega)
              omega
            obtain ⟨b, hbv⟩ : ∃ b, b = s.data.toList[j].toNat := ⟨_, rfl⟩
            rw [← hbv] at hix hsn
            by_cases hlo : b < 48
            · have hb2 : decide (b < 48) = true := decide_eq_true hlo
              have hq : pdig s.data.toList = none := pdig_bad hjs (by rw [isDig, ← hbv, Bool.and_eq_false_iff]; exact .inl (decide_eq_false (by omega)))
              have HQ := Lib.hid hq
              clear hbd hsd hsn hx2 hq hbv hjs
              go_wp2_with fail
              go_ret2
              rw [HQ.out]
              exact RetPD.no hU
            have hb2 : decide (b < 48) = false := decide_eq_false hlo
            by_cases hhi : 57 < b
            · have hb3 : decide (57 < b) = true := decide_eq_true hhi
              have hq : pdig s.data.toList = none := pdig_bad hjs (by rw [isDig, ← hbv, Bool.and_eq_false_iff]; exact .inr (decide_eq_false (by omega)))
              have HQ := Lib.hid hq
              clear hbd hsd hsn hx2 hq hbv hjs
              go_wp2_with fail
              go_ret2
              rw [HQ.out]
              exact RetPD.no hU
            have hb3 : decide (57 < b) = false := decide_eq_false hhi
            have HD : Hid (∀ i (hi : i < s.data.toList.length), 0 ≤ i → i < j + 1 → isDig s.data.toList[i] = true) := Lib.hid fun i hi h1 h2 => by
              rcases Nat.lt_or_ge i j with h' | h'
              · exact hsd i hi h1 h'
              · have : i = j := by omega
                subst this
                rw [isDig, ← hbv, Bool.and_eq_true]
                exact ⟨decide_eq_true (by omega), decide_eq_true (by omega)⟩
            obtain ⟨x, hxv⟩ : ∃ x, x = dval ((s.data.toList.take j).drop (0)) := ⟨_, rfl⟩
            rw [← hxv] at hsn hx2 ⊢
            have HX2 := Lib.hid hsn
            clear hbd hsd hsn hbv hxv hjs
            go_wp2_with fail
            go_round
            case rel =>
              have hnew : SegRel s.data.toList (0) (m) (.int .u32 ((x : Int) * 10 + ((b : Int) - 48))) (.int .i64 ((j : Int) + 1)) := ⟨j + 1, by omega, by omega, by go_num, by rw [HX2.out]; go_num, HD.out⟩
              first
                | exact hnew
                | exact ⟨_, _, _, _, hnew, rfl, rfl, rfl, rfl⟩
            case measure => simp [intOf]; omega
          · have hjn' : m = j := by omega
            subst hjn'
            have hx9 : dval ((s.data.toList.take (m)).drop (0)) < 1000000000 := Nat.lt_of_lt_of_le hbd (by
              have h2 : 10 ^ (m - 0) ≤ 10 ^ 9 := Nat.pow_le_pow_right (by omega) (by omega)
              omega)
            obtain ⟨x, hxv⟩ : ∃ x, x = dval ((s.data.toList.take (m)).drop (0)) := ⟨_, rfl⟩
            have hst3 : Hid ((nv xs + 1000000000 ^ k * x) + 1000000000 ^ (k + 1) * dval (s.data.toList.take (0)) = dval s.data.toList) := Lib.hid (by rw [hxv]; exact hst.out)
            have HSD := Lib.hid hsd
            rw [← hxv] at hx9 ⊢
            have hus := hU.size
            clear hst hxv hsd hbd
            go_wp2_with (first
              | (at_builtin; go_must (refine wpList_append_ints rfl (.tmp 48) (.tmp 50) 22 rfl w.heap.size 37 .u32 tabU u4 (zs xs) rfl (HO.out.alloc _) (wr.heap.size + 1) (some ⟨wr.heap.size, 0, none⟩) 1 [(x : Int)] rfl (by exact SI.blk _ (Blk.new wr 37 _) (by simp)) (by have h1 := HX.out.1; have h2 := HE.out; simp; omega) (by simp; omega) ?_; intro v2 w2 hA2)))
            go_roundw
            case rel =>
              refine ⟨k + 1, _, xs ++ [x], rfl, ?_, ?_, ?_, ?_, ?_, ?_, ?_, ?_⟩
              · have h2 := HE.out; omega
              · omega
              · rw [zs_one xs _ (z := (x : Int)) rfl]; exact hA2.own
              · rw [List.length_append, HX.out.1]; rfl
              · intro a ha
                rcases List.mem_append.1 ha with ha | ha
                · exact HX.out.2 a ha
                · simp at ha; omega
              · rw [nv_snoc, HX.out.1]
                first | exact hst3.out | (rw [show Int.toNat _ = 0 from by omega]; exact hst3.out)
              · intro i hi h
                rcases Nat.lt_or_ge i (m) with h' | h'
                · exact HSD.out i hi (by omega) h'
                · exact HDG.out i hi h'
              · exact hA2.below (hU.alloc hus _) (HO.out.alloc _) (by simp; omega)
            case measure => simp [intOf]; omega
      · obtain ⟨lo, rfl⟩ : ∃ lo, m = lo + 9 := ⟨m - 9, by omega⟩
        have h0lo : 0 < lo := by omega
        rw [Nat.add_sub_cancel] at hst
        go_wp2_with fail
        go_loop [6, 7] (fun x i => SegRel s.data.toList (lo) (lo + 9) x i) (fun _ i => lo + 9 - (intOf i).toNat)
        case atStart => exact SegRel.start _ _ _ (by omega)
        case round =>
          obtain ⟨j, hj0, hj, rfl, rfl, hsd⟩ := hrel
          have hbd := seg_bd (by have := HL.out; omega) hsd
          by_cases hjn : j < lo + 9
          · have hjs : j < s.data.toList.length := by have := HL.out; omega
            have hix := HI.out j hjs
            have hsn := seg_snoc hjs hj0
            have hx2 : dval ((s.data.toList.take j).drop (lo)) ≤ 99999999 := by
              have h2 : 10 ^ (j - lo) ≤ 10 ^ 8 := Nat.pow_le_pow_right (by omega) (by omega)
              omega
            obtain ⟨b, hbv⟩ : ∃ b, b = s.data.toList[j].toNat := ⟨_, rfl⟩
            rw [← hbv] at hix hsn
            by_cases hlo : b < 48
            · have hb2 : decide (b < 48) = true := decide_eq_true hlo
              have hq : pdig s.data.toList = none := pdig_bad hjs (by rw [isDig, ← hbv, Bool.and_eq_false_iff]; exact .inl (decide_eq_false (by omega)))
              have HQ := Lib.hid hq
              clear hbd hsd hsn hx2 hq hbv hjs
              go_wp2_with fail
              go_ret2
              rw [HQ.out]
              exact RetPD.no hU
            have hb2 : decide (b < 48) = false := decide_eq_false hlo
            by_cases hhi : 57 < b
            · have hb3 : decide (57 < b) = true := decide_eq_true hhi
              have hq : pdig s.data.toList = none := pdig_bad hjs (by rw [isDig, ← hbv, Bool.and_eq_false_iff]; exact .inr (decide_eq_false (by omega)))
              have HQ := Lib.hid hq
              clear hbd hsd hsn hx2 hq hbv hjs
              go_wp2_with fail
              go_ret2
              rw [HQ.out]
              exact RetPD.no hU
            have hb3 : decide (57 < b) = false := decide_eq_false hhi
            have HD : Hid (∀ i (hi : i < s.data.toList.length), lo ≤ i → i < j + 1 → isDig s.data.toList[i] = true) := Lib.hid fun i hi h1 h2 => by
              rcases Nat.lt_or_ge i j with h' | h'
              · exact hsd i hi h1 h'
              · have : i = j := by omega
                subst this
                rw [isDig, ← hbv, Bool.and_eq_true]
                exact ⟨decide_eq_true (by omega), decide_eq_true (by omega)⟩
            obtain ⟨x, hxv⟩ : ∃ x, x = dval ((s.data.toList.take j).drop (lo)) := ⟨_, rfl⟩
            rw [← hxv] at hsn hx2 ⊢
            have HX2 := Lib.hid hsn
            clear hbd hsd hsn hbv hxv hjs
            go_wp2_with fail
            go_round
            case rel =>
              have hnew : SegRel s.data.toList (lo) (lo + 9) (.int .u32 ((x : Int) * 10 + ((b : Int) - 48))) (.int .i64 ((j : Int) + 1)) := ⟨j + 1, by omega, by omega, by go_num, by rw [HX2.out]; go_num, HD.out⟩
              first
                | exact hnew
                | exact ⟨_, _, _, _, hnew, rfl, rfl, rfl, rfl⟩
            case measure => simp [intOf]; omega
          · have hjn' : lo + 9 = j := by omega
            subst hjn'
            have hx9 : dval ((s.data.toList.take (lo + 9)).drop (lo)) < 1000000000 := Nat.lt_of_lt_of_le hbd (by
              have h2 : 10 ^ (lo + 9 - lo) ≤ 10 ^ 9 := Nat.pow_le_pow_right (by omega) (by omega)
              omega)
            obtain ⟨x, hxv⟩ : ∃ x, x = dval ((s.data.toList.take (lo + 9)).drop (lo)) := ⟨_, rfl⟩
            have hst3 : Hid ((nv xs + 1000000000 ^ k * x) + 1000000000 ^ (k + 1) * dval (s.data.toList.take (lo)) = dval s.data.toList) := Lib.hid (by rw [hxv]; exact hst.out)
            have HSD := Lib.hid hsd
            rw [← hxv] at hx9 ⊢
            have hus := hU.size
            clear hst hxv hsd hbd
            go_wp2_with (first
              | (at_builtin; go_must (refine wpList_append_ints rfl (.tmp 48) (.tmp 50) 22 rfl w.heap.size 37 .u32 tabU u4 (zs xs) rfl (HO.out.alloc _) (wr.heap.size + 1) (some ⟨wr.heap.size, 0, none⟩) 1 [(x : Int)] rfl (by exact SI.blk _ (Blk.new wr 37 _) (by simp)) (by have h1 := HX.out.1; have h2 := HE.out; simp; omega) (by simp; omega) ?_; intro v2 w2 hA2)))
            go_roundw
            case rel =>
              refine ⟨k + 1, _, xs ++ [x], rfl, ?_, ?_, ?_, ?_, ?_, ?_, ?_, ?_⟩
              · have h2 := HE.out; omega
              · omega
              · rw [zs_one xs _ (z := (x : Int)) rfl]; exact hA2.own
              · rw [List.length_append, HX.out.1]; rfl
              · intro a ha
                rcases List.mem_append.1 ha with ha | ha
                · exact HX.out.2 a ha
                · simp at ha; omega
              · rw [nv_snoc, HX.out.1]
                first | exact hst3.out | (rw [show Int.toNat _ = lo from by omega]; exact hst3.out)
              · intro i hi h
                rcases Nat.lt_or_ge i (lo + 9) with h' | h'
                · exact HSD.out i hi (by omega) h'
                · exact HDG.out i hi h'
              · exact hA2.below (hU.alloc hus _) (HO.out.alloc _) (by simp; omega)
            case measure => simp [intOf]; omega
    · have hz : E.toNat = 0 := by omega
      rw [hz] at hnv hdg
      rw [List.take_zero, dval_nil, Nat.mul_zero, Nat.add_zero] at hnv
      have hall : s.data.toList.all isDig = true := by
        rw [List.all_eq_true]
        intro x hx
        obtain ⟨j, hj, rfl⟩ := List.getElem_of_mem hx
        exact hdg j hj (by omega)
      have HA := Lib.hid hall
      have HO := Lib.hid hO
      have hk9 : xs.length ≤ 1000 := by omega
      obtain ⟨A2, c2, hv2, hc2, hm2, sA2, hO2⟩ := HO.out.form
      rw [zs_length] at hv2 hc2
      have HT := cut_any A2 c2 xs wr sA2 hc2 (by simpa [maxLen] using hm2) hxs (by omega)
      rw [hnv] at HT
      have H1 := Lib.hid HT
      rw [hv2]
      clear hz hO hnv hxl hxs hE hE9 HT sA2 hO2 hm2 hc2 hv2 hall hdg
      go_wp2_with fail
      refine H1.out.mono ?_
      rintro e w2 ⟨A3, c3, rfl, h1, h2, h3, hU2⟩
      have HH := Lib.hid (And.intro h1 (And.intro h2 (And.intro h3 hU2)))
      clear h1 h2 h3 hU2
      go_wp2_with fail
      go_ret2
      rw [pdig_some (by have := HL.out; omega) (by have := HL.out; omega) HA.out]
      exact ⟨A3, c3, rfl, HH.out.1, HH.out.2.1, HH.out.2.2.1, hU.trans HH.out.2.2.2⟩
end Go.Proofs.Ytefiapjfiojaoaa
