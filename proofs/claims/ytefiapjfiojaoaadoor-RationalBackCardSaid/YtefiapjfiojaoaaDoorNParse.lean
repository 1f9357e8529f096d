/-
  The contract of rational.parseDigits: 1 to 200 digits, else it refuses.
-/
import Derived.Test.YtefiapjfiojaoaaDoorPA
import Derived.Test.YtefiapjfiojaoaaDoorTPlain
import Derived.Laws.IdiomStrings
namespace Go.Proofs.YtefiapjfiojaoaaDoor
open Go Go.RowKit

/-- What parseDigits leaves. -/
def RetPD (w0 : World) (o : Option Nat) (e : Ending) (w' : World) : Prop :=
  match o with
  | some n => ∃ A c, e = .returned (.tuple #[.slice A (ln n) c, .bool true]) ∧ ln n ≤ c ∧ c ≤ 9223372036854775807 ∧ NS w' A n ∧ Up w0 w'
  | none => e = .returned (.tuple #[.slice none 0 0, .bool false]) ∧ Up w0 w'
theorem RetPD.no {w0 w' : World} (h : Up w0 w') : RetPD w0 none (.returned (.tuple #[.slice none 0 0, .bool false])) w' := ⟨rfl, h⟩

theorem run_bytes (s : ByteArray) (w : World) : ∃ (n : Nat) (C : Array Value) (fr : Nat × Nat) (c : Nat), n = s.size ∧ (∀ j (hj : j < s.data.toList.length), C[j]? = some (.int .u8 (s.data.toList[j].toNat : Int))) ∧
    (convert 9 67 (.string s)).run Tryd.prog w = .ok (.slice (some ⟨w.heap.size, 0, none⟩) n c) (w.alloc (.cells C 5 fr)).drew := by
  refine ⟨s.size, _, _, _, rfl, fun j hj => ?_, run_bytes_of_string w 9 67 5 s (by kernel_rfl) (by kernel_rfl) (by kernel_rfl)⟩
  rw [bytesRow_at s _ j (by simpa using hj)]
  simp
theorem extract_list (s : ByteArray) (e : Nat) : (s.extract (e - 9) e).data.toList = (s.data.toList.take e).drop (e - 9) := by
  rw [Lib.extract_data, List.drop_take]

set_option maxRecDepth 100000 in
set_option maxHeartbeats 1600000 in
theorem parseDigits_any (s : ByteArray) (w : World) (hs : s.size ≤ 1000) : Calls Tryd.prog 33 #[.string s] w (RetPD w (pdig s.data.toList)) := by
  have hl : s.data.toList.length = s.size := (Lib.size_eq s).symm
  by_cases h0 : s.size = 0
  · rw [pdig_short (by omega)]
    have hb : ((s.size : Int) == 0) = true := beq_iff_eq.2 (by omega)
    clear hl
    go_enter Tryd.func33, Tryd.ntmps33
    go_wp2_with fail
    go_ret2
    exact RetPD.no (Up.refl _)
  have hb0 : ((s.size : Int) == 0) = false := beq_eq_false_iff_ne.2 (by omega)
  by_cases h200 : 200 < s.size
  · rw [pdig_long (by omega)]
    have hb : decide (200 < s.size) = true := decide_eq_true (by omega)
    clear hl
    go_enter Tryd.func33, Tryd.ntmps33
    go_wp2_with fail
    go_ret2
    exact RetPD.no (Up.refl _)
  have hb1 : decide (200 < s.size) = false := decide_eq_false (by omega)
  go_enter Tryd.func33, Tryd.ntmps33
  go_wp2_with fail
  go_loop [20] (fun i => ∃ k : Nat, k ≤ s.size ∧ i = .int .i64 k ∧ ∀ j (hj : j < s.data.toList.length), j < k → isDig s.data.toList[j] = true) (fun i => s.size - (intOf i).toNat)
  case atStart => exact ⟨0, Nat.zero_le _, rfl, fun j hj h => absurd h (by omega)⟩
  case round =>
    obtain ⟨k, hk, rfl, hd⟩ := hrel
    by_cases hlt : k < s.size
    · obtain ⟨b, hbv⟩ : ∃ b, b = s[k].toNat := ⟨_, rfl⟩
      have hkl : k < s.data.toList.length := by omega
      have hel : s.data.toList[k] = s[k] := rfl
      have hidx : ∀ wx, (Instr.index 9 (.string s) (.int .i64 (k : Int))).run Tryd.prog wx = .ok (.int .u8 (b : Int)) wx := fun wx => by
        rw [run_index_string wx 9 s .i64 k (by kernel_rfl), dif_pos ⟨by omega, by omega⟩, hbv]
        rfl
      by_cases hlo : b < 48
      · have hb2 : decide (b < 48) = true := decide_eq_true hlo
        have hq : pdig s.data.toList = none := pdig_bad hkl (by rw [hel, isDig, ← hbv, Bool.and_eq_false_iff]; exact .inl (decide_eq_false (by omega)))
        rw [hq]
        clear hd hel hq hl hbv
        go_wp2_with fail
        go_ret2
        exact RetPD.no (Up.refl _)
      have hb2 : decide (b < 48) = false := decide_eq_false hlo
      by_cases hhi : 57 < b
      · have hb3 : decide (57 < b) = true := decide_eq_true hhi
        have hq : pdig s.data.toList = none := pdig_bad hkl (by rw [hel, isDig, ← hbv, Bool.and_eq_false_iff]; exact .inr (decide_eq_false (by omega)))
        rw [hq]
        clear hd hel hq hl hbv
        go_wp2_with fail
        go_ret2
        exact RetPD.no (Up.refl _)
      have hb3 : decide (57 < b) = false := decide_eq_false hhi
      have HD : Hid (∀ j (hj : j < s.data.toList.length), j < k + 1 → isDig s.data.toList[j] = true) := Lib.hid fun j hj h => by
        rcases Nat.lt_or_ge j k with h' | h'
        · exact hd j hj h'
        · have : j = k := by omega
          subst this
          rw [hel, isDig, ← hbv, Bool.and_eq_true]
          exact ⟨decide_eq_true (by omega), decide_eq_true (by omega)⟩
      clear hd hel hl hbv
      go_wp2_with fail
      go_round
      case rel => exact ⟨k + 1, by omega, by go_num, HD.out⟩
      case measure => simp [intOf]; omega
    · have hk' : k = s.size := by omega
      subst hk'
      have hall : s.data.toList.all isDig = true := by
        rw [List.all_eq_true]
        intro x hx
        obtain ⟨j, hj, rfl⟩ := List.getElem_of_mem hx
        exact hd j hj (by omega)
      rw [pdig_some (by omega) (by omega) hall]
      have HA := Lib.hid hall
      have HL := Lib.hid hl
      clear hd hall hl
      go_wp2_with fail
      go_loopw [5, 6] (fun v e wr => ∃ (k : Nat) (E : Int) (xs : List Nat), e = .int .i64 E ∧ E = (s.size : Int) - 9 * k ∧ -9 < E ∧ OI wr w.heap.size 25 .u32 v (zs xs) ∧ xs.length = k ∧ (∀ a ∈ xs, a < 1000000000) ∧
        nv xs + 1000000000 ^ k * dval (s.data.toList.take E.toNat) = dval s.data.toList ∧ Up w wr) (fun _ e _ => (intOf e).toNat)
      case atStart => exact ⟨0, s.size, [], rfl, by omega, by omega, OI.nil_, rfl, by simp, by rw [List.take_of_length_le (by have := HL.out; omega)]; simp [nv], Up.refl _⟩
      case round =>
        obtain ⟨k, E, xs, rfl, hE, hE9, hO, hxl, hxs, hnv, hU⟩ := hrel
        by_cases hpos : 0 < E
        · obtain ⟨m, rfl⟩ : ∃ m : Nat, E = m := ⟨E.toNat, by omega⟩
          rw [Int.toNat_natCast] at hnv
          have hst := Lib.hid (pd_step (by have := HL.out; omega) hnv)
          have HO := Lib.hid hO
          have HX := Lib.hid (And.intro hxl hxs)
          have HE := Lib.hid hE
          have hm1 : m ≤ 1000 := by omega
          have hseg : ∃ seg : List UInt8, seg = (s.data.toList.take m).drop (m - 9) := ⟨_, rfl⟩
          obtain ⟨seg, hseg⟩ := hseg
          have hex : (s.extract (m - 9) m).data.toList = seg := by rw [hseg, extract_list]
          have hle : (m : Int) ≤ s.size := by omega
          obtain ⟨n, C, fr, c, hn, hC, hcv⟩ := run_bytes (s.extract (m - 9) m) wr
          rw [hex] at hC
          have hsl : seg.length = n := by rw [hn, Lib.size_eq, hex]
          have hn9 : n ≤ 9 := by rw [← hsl, hseg, List.length_drop, List.length_take]; omega
          have HS : Hid (seg.length = n ∧ (∀ x ∈ seg, isDig x = true) ∧ (∀ i, dval (seg.take i) < 10 ^ i) ∧ dval seg < 1000000000) := Lib.hid ⟨hsl, by
            have h1 := all_drop (all_take HA.out m) (m - 9)
            rw [← hseg, List.all_eq_true] at h1
            exact h1, fun i => by rw [hseg]; exact seg_lt HA.out m i, by rw [hseg]; exact seg_lt9 HA.out m⟩
          have hst2 : Hid ((nv xs + 1000000000 ^ k * dval seg) + 1000000000 ^ (k + 1) * dval (s.data.toList.take (m - 9)) = dval s.data.toList) := Lib.hid (by rw [hseg]; exact hst.out)
          have HC := Lib.hid hC
          have HN := Lib.hid hn
          clear hnv hO hxl hxs hE hE9 hst hseg hex hC hsl hn
          have hcase : m ≤ 9 ∨ 9 < m := by omega
          rcases hcase with h9 | h9
          · have e9 : m - 9 = 0 := by omega
            rw [e9] at hcv
            have hmx : ¬ (9 < m) := by omega
            go_wp2_with fail
            obtain ⟨w1, hw1⟩ : ∃ w1, w1 = (wr.alloc (Obj.cells C 5 fr)).drew := ⟨_, rfl⟩
            rw [← hw1]
            have hcell : ∀ j (hj : j < seg.length), w1.cell? ⟨wr.heap.size, j, none⟩ = some (.int .u8 (seg[j].toNat : Int)) := fun j hj => by rw [hw1]; exact (World.cell?_alloc_mark wr C _ fr j).trans (HC.out j hj)
            have hU1 : Up wr w1 := by rw [hw1]; exact ((Below.refl _ _).alloc (Nat.le_refl _) _).drew
            have HO1 : Hid (OI w1 w.heap.size 25 .u32 u5 (zs xs)) := Lib.hid (by rw [hw1]; exact (HO.out.alloc _).drew)
            clear hw1 HC hcv HO
            go_loop [7, 48] (fun x i => ∃ j : Nat, j ≤ n ∧ i = .int .i64 j ∧ x = .int .u32 (dval (seg.take j) : Nat)) (fun _ i => n - (intOf i).toNat)
            case atStart => exact ⟨0, Nat.zero_le _, rfl, rfl⟩
            case round =>
              obtain ⟨j, hj, rfl, rfl⟩ := hrel
              by_cases hjn : j < n
              · have hjs : j < seg.length := by have := HS.out.1; omega
                have hc1 := hcell j hjs
                obtain ⟨b, hb⟩ : ∃ b, b = seg[j].toNat := ⟨_, rfl⟩
                have hdg := HS.out.2.1 seg[j] (List.getElem_mem hjs)
                simp only [isDig, Bool.and_eq_true, decide_eq_true_eq] at hdg
                rw [← hb] at hc1 hdg
                obtain ⟨hd1, hd2⟩ := hdg
                have hnx : dval (seg.take (j + 1)) = dval (seg.take j) * 10 + (b - 48) := by rw [List.take_succ_eq_append_getElem hjs, dval_snoc, hb]
                have hx2 : dval (seg.take j) ≤ 99999999 := by
                  have h1 := HS.out.2.2.1 j
                  have h2 : 10 ^ j ≤ 10 ^ 8 := Nat.pow_le_pow_right (by omega) (by omega)
                  omega
                obtain ⟨x, hxv⟩ : ∃ x, x = dval (seg.take j) := ⟨_, rfl⟩
                rw [← hxv] at hnx hx2 ⊢
                have HX2 := Lib.hid hnx
                clear hnx hcell hb hxv hjs
                go_wp2_with fail
                go_round
                case rel => exact ⟨j + 1, by omega, by go_num, by rw [HX2.out]; go_num⟩
                case measure => simp [intOf]; omega
              · have hjn' : j = n := by omega
                subst hjn'
                have hfull : seg.take j = seg := List.take_of_length_le (by have := HS.out.1; omega)
                rw [hfull]
                have hx9 := HS.out.2.2.2
                obtain ⟨x, hxv⟩ : ∃ x, x = dval seg := ⟨_, rfl⟩
                have hst3 : Hid ((nv xs + 1000000000 ^ k * x) + 1000000000 ^ (k + 1) * dval (s.data.toList.take (m - 9)) = dval s.data.toList) := Lib.hid (by rw [hxv]; exact hst2.out)
                rw [← hxv] at hx9 ⊢
                have hus := (Up.trans hU hU1).size
                clear hfull hcell hst2 hxv
                go_wp2_with (first
                  | (at_builtin; go_must (refine wpList_append_ints rfl (.tmp 59) (.tmp 61) 38 rfl w.heap.size 25 .u32 tabN u5 (zs xs) rfl (HO1.out.alloc _) (w1.heap.size + 1) (some ⟨w1.heap.size, 0, none⟩) 1 [(x : Int)] rfl (by exact SI.blk _ (Blk.new w1 25 _) (by simp)) (by have h1 := HX.out.1; have h2 := HE.out; simp; omega) (by simp; omega) ?_; intro v2 w2 hA2)))
                go_roundw
                case rel =>
                  refine ⟨k + 1, _, xs ++ [x], rfl, ?_, ?_, ?_, ?_, ?_, ?_, ?_⟩
                  · have h2 := HE.out; omega
                  · omega
                  · rw [zs_one xs _ (z := (x : Int)) rfl]; exact hA2.own
                  · rw [List.length_append, HX.out.1]; rfl
                  · intro a ha
                    rcases List.mem_append.1 ha with ha | ha
                    · exact HX.out.2 a ha
                    · simp at ha; omega
                  · rw [nv_snoc, HX.out.1]
                    first | exact hst3.out | (rw [show Int.toNat _ = m - 9 from by omega]; exact hst3.out)
                  · exact hA2.below ((Up.trans hU hU1).alloc hus _) (HO1.out.alloc _) (by simp; omega)
                case measure => simp [intOf]; omega
          · obtain ⟨lo, rfl⟩ : ∃ lo, m = lo + 9 := ⟨m - 9, by omega⟩
            have h0lo : 0 < lo := by omega
            rw [Nat.add_sub_cancel] at hcv
            rw [Int.natCast_add] at hle
            have hle' : (lo : Int) + 9 ≤ s.size := hle
            go_wp2_with fail
            obtain ⟨w1, hw1⟩ : ∃ w1, w1 = (wr.alloc (Obj.cells C 5 fr)).drew := ⟨_, rfl⟩
            rw [← hw1]
            have hcell : ∀ j (hj : j < seg.length), w1.cell? ⟨wr.heap.size, j, none⟩ = some (.int .u8 (seg[j].toNat : Int)) := fun j hj => by rw [hw1]; exact (World.cell?_alloc_mark wr C _ fr j).trans (HC.out j hj)
            have hU1 : Up wr w1 := by rw [hw1]; exact ((Below.refl _ _).alloc (Nat.le_refl _) _).drew
            have HO1 : Hid (OI w1 w.heap.size 25 .u32 u5 (zs xs)) := Lib.hid (by rw [hw1]; exact (HO.out.alloc _).drew)
            clear hw1 HC hcv HO
            go_loop [7, 48] (fun x i => ∃ j : Nat, j ≤ n ∧ i = .int .i64 j ∧ x = .int .u32 (dval (seg.take j) : Nat)) (fun _ i => n - (intOf i).toNat)
            case atStart => exact ⟨0, Nat.zero_le _, rfl, rfl⟩
            case round =>
              obtain ⟨j, hj, rfl, rfl⟩ := hrel
              by_cases hjn : j < n
              · have hjs : j < seg.length := by have := HS.out.1; omega
                have hc1 := hcell j hjs
                obtain ⟨b, hb⟩ : ∃ b, b = seg[j].toNat := ⟨_, rfl⟩
                have hdg := HS.out.2.1 seg[j] (List.getElem_mem hjs)
                simp only [isDig, Bool.and_eq_true, decide_eq_true_eq] at hdg
                rw [← hb] at hc1 hdg
                obtain ⟨hd1, hd2⟩ := hdg
                have hnx : dval (seg.take (j + 1)) = dval (seg.take j) * 10 + (b - 48) := by rw [List.take_succ_eq_append_getElem hjs, dval_snoc, hb]
                have hx2 : dval (seg.take j) ≤ 99999999 := by
                  have h1 := HS.out.2.2.1 j
                  have h2 : 10 ^ j ≤ 10 ^ 8 := Nat.pow_le_pow_right (by omega) (by omega)
                  omega
                obtain ⟨x, hxv⟩ : ∃ x, x = dval (seg.take j) := ⟨_, rfl⟩
                rw [← hxv] at hnx hx2 ⊢
                have HX2 := Lib.hid hnx
                clear hnx hcell hb hxv hjs
                go_wp2_with fail
                go_round
                case rel => exact ⟨j + 1, by omega, by go_num, by rw [HX2.out]; go_num⟩
                case measure => simp [intOf]; omega
              · have hjn' : j = n := by omega
                subst hjn'
                have hfull : seg.take j = seg := List.take_of_length_le (by have := HS.out.1; omega)
                rw [hfull]
                have hx9 := HS.out.2.2.2
                obtain ⟨x, hxv⟩ : ∃ x, x = dval seg := ⟨_, rfl⟩
                have hst3 : Hid ((nv xs + 1000000000 ^ k * x) + 1000000000 ^ (k + 1) * dval (s.data.toList.take (lo + 9 - 9)) = dval s.data.toList) := Lib.hid (by rw [hxv]; exact hst2.out)
                rw [← hxv] at hx9 ⊢
                have hus := (Up.trans hU hU1).size
                clear hfull hcell hst2 hxv
                go_wp2_with (first
                  | (at_builtin; go_must (refine wpList_append_ints rfl (.tmp 59) (.tmp 61) 38 rfl w.heap.size 25 .u32 tabN u5 (zs xs) rfl (HO1.out.alloc _) (w1.heap.size + 1) (some ⟨w1.heap.size, 0, none⟩) 1 [(x : Int)] rfl (by exact SI.blk _ (Blk.new w1 25 _) (by simp)) (by have h1 := HX.out.1; have h2 := HE.out; simp; omega) (by simp; omega) ?_; intro v2 w2 hA2)))
                go_roundw
                case rel =>
                  refine ⟨k + 1, _, xs ++ [x], rfl, ?_, ?_, ?_, ?_, ?_, ?_, ?_⟩
                  · have h2 := HE.out; omega
                  · omega
                  · rw [zs_one xs _ (z := (x : Int)) rfl]; exact hA2.own
                  · rw [List.length_append, HX.out.1]; rfl
                  · intro a ha
                    rcases List.mem_append.1 ha with ha | ha
                    · exact HX.out.2 a ha
                    · simp at ha; omega
                  · rw [nv_snoc, HX.out.1]
                    first | exact hst3.out | (rw [show Int.toNat _ = lo + 9 - 9 from by omega]; exact hst3.out)
                  · exact hA2.below ((Up.trans hU hU1).alloc hus _) (HO1.out.alloc _) (by simp; omega)
                case measure => simp [intOf]; omega
        · have hz : E.toNat = 0 := by omega
          rw [hz, List.take_zero, dval_nil, Nat.mul_zero, Nat.add_zero] at hnv
          have HO := Lib.hid hO
          obtain ⟨A2, c2, hv2, hc2, hm2, sA2, hO2⟩ := HO.out.form
          rw [zs_length] at hv2 hc2
          obtain ⟨T1, T2⟩ := trim_reads sA2 hxs
          rw [hnv] at T1 T2
          have HT := trim_any A2 c2 xs wr.heap.size wr sA2 hc2 (by simpa [maxLen] using hm2) hxs
          rw [hnv] at HT
          have H1 := Lib.hid HT
          have H2 := Lib.hid T1
          have H3 := Lib.hid (And.intro hm2 (Nat.le_trans T2 hc2))
          rw [hv2]
          clear hz hO hnv hxl hxs hE hE9 HT T1 T2 sA2 hO2 hm2 hc2 hv2
          go_wp2_with fail
          refine H1.out.mono ?_
          rintro e w2 ⟨rfl, rfl⟩
          go_wp2_with fail
          go_ret2
          rw [pdig_some (by have := HL.out; omega) (by have := HL.out; omega) HA.out]
          exact ⟨A2, c2, rfl, H3.out.2, by simpa [maxLen] using H3.out.1, H2.out, hU⟩
end Go.Proofs.YtefiapjfiojaoaaDoor
