/-
  The contract of the document's natText: the decimal digits of a natural number.
-/
import Derived.Test.YtefiapjfiojaoaaDoorTDig
import Derived.Test.YtefiapjfiojaoaaDoorPE
import Derived.Laws.Concat
import Derived.Lib.ItoaMem
namespace Go.Proofs.YtefiapjfiojaoaaDoor
open Go Go.RowKit

/-- The value is the string of the bytes l. -/
def StrIs (v : Value) (l : List UInt8) : Prop := ∃ S : ByteArray, v = .string S ∧ S.data.toList = l
theorem StrIs.nil_ : StrIs (.string ⟨#[]⟩) [] := ⟨_, rfl, rfl⟩
theorem StrIs.is {v : Value} {l : List UInt8} (h : StrIs v l) : v = .string ⟨l.toArray⟩ := by
  obtain ⟨S, rfl, rfl⟩ := h
  simp
theorem bytes_app (a b : ByteArray) : (a ++ b).data.toList = a.data.toList ++ b.data.toList := by simp
theorem lowd_mod (k v : Nat) : lowd k v = lowd k (v % 10 ^ k) := by
  induction k generalizing v with
  | zero => rfl
  | succ k ih =>
    have hp : 10 ^ (k + 1) = 10 ^ k * 10 := Nat.pow_succ ..
    rw [lowd, lowd, ih (v / 10), hp, Nat.mul_comm (10 ^ k) 10, Nat.mod_mul_right_div_self, Nat.mod_mul_right_mod]
theorem lowd_app (a b v : Nat) : lowd (a + b) v = lowd a (v / 10 ^ b) ++ lowd b v := by
  induction a with
  | zero => simp [lowd]
  | succ a ih =>
    rw [show a + 1 + b = (a + b) + 1 from by omega, lowd_cons, lowd_cons, ih, List.cons_append, Nat.div_div_eq_div_mul, ← Nat.pow_add, Nat.add_comm b a]
/-- The text of one limb, when the loop ends. -/
theorem dec_end {m c : Nat} (h1 : m = 0 ∨ c / 10 ^ (m - 1) ≠ 0) (h2 : c / 10 ^ m = 0) (hc : c ≠ 0) : lowd m c = Lib.decDigits c := by
  rcases h1 with rfl | h1
  · simp at h2; exact absurd h2 hc
  · obtain ⟨k, rfl⟩ : ∃ k, m = k + 1 := by
      cases m with
      | zero => simp at h2; exact absurd h2 hc
      | succ k => exact ⟨k, rfl⟩
    rw [Nat.add_sub_cancel] at h1
    have hp : 10 ^ (k + 1) = 10 ^ k * 10 := Nat.pow_succ ..
    rw [hp, ← Nat.div_div_eq_div_mul] at h2
    have e : c = c / 10 ^ k * 10 ^ k + c % 10 ^ k := by rw [Nat.mul_comm]; exact (Nat.div_add_mod c (10 ^ k)).symm
    have hr : c % 10 ^ k < 10 ^ k := Nat.mod_lt _ (Nat.pow_pos (by omega))
    have hl : lowd k c = lowd k (c % 10 ^ k) := lowd_mod k c
    rw [lowd_cons, hl]
    obtain ⟨V, hV⟩ : ∃ V, V = c / 10 ^ k := ⟨_, rfl⟩
    rw [← hV] at h1 h2 e ⊢
    have hd : V < 10 := by omega
    have h3 := dec_low V k (c % 10 ^ k) (Nat.pos_of_ne_zero h1) hr
    rw [← e, dec_small hd] at h3
    rw [h3, Nat.mod_eq_of_lt hd]
    rfl
/-- The text of the k limbs below. -/
def btext (ns : List Nat) (k : Nat) : List UInt8 := if k = ns.length then (if ns.length = 0 then [] else Lib.decDigits (nv ns)) else lowd (9 * k) (nv ns)
theorem btext_zero (ns : List Nat) : btext ns 0 = [] := by
  unfold btext
  split
  · next h => rw [if_pos h.symm]
  · rfl
theorem btext_end {ns : List Nat} (h : ns.length ≠ 0) : btext ns ns.length = Lib.decDigits (nv ns) := by unfold btext; rw [if_pos rfl, if_neg h]
theorem btext_len {ns : List Nat} {k : Nat} (hk : k < ns.length) : (btext ns k).length = 9 * k := by unfold btext; rw [if_neg (by omega), lowd_length]
theorem limb_of {ns : List Nat} {k : Nat} (hk : k < ns.length) (hns : ∀ a ∈ ns, a < 1000000000) : nv ns / 10 ^ (9 * k) = nv (ns.drop k) ∧ nv (ns.drop k) = ns[k] + 1000000000 * nv (ns.drop (k + 1)) := by
  refine ⟨?_, nv_drop ns k hk⟩
  have h1 := nv_split ns k (by omega)
  have h2 := nv_lt (ns.take k) fun a ha => hns a (List.mem_of_mem_take ha)
  rw [List.length_take, Nat.min_eq_left (by omega)] at h2
  rw [h1, show (10 : Nat) ^ (9 * k) = 1000000000 ^ k from by rw [Nat.pow_mul]]
  rw [Nat.add_mul_div_left _ _ (Nat.pow_pos (by omega)), Nat.div_eq_of_lt h2, Nat.zero_add]
theorem btext_mid {ns : List Nat} {k : Nat} (hk0 : k < ns.length) (hk : k + 1 < ns.length) (hns : ∀ a ∈ ns, a < 1000000000) : btext ns (k + 1) = lowd 9 ns[k] ++ btext ns k := by
  obtain ⟨h1, h2⟩ := limb_of (show k < ns.length by omega) hns
  have h3 := hns _ (List.getElem_mem (show k < ns.length by omega))
  unfold btext
  rw [if_neg (by omega), if_neg (by omega), show 9 * (k + 1) = 9 + 9 * k from by omega, lowd_app, h1, lowd_mod 9, h2, lowd_mod 9 ns[k]]
  rw [show (10 : Nat) ^ 9 = 1000000000 from rfl, Nat.add_mul_mod_self_left]
theorem btext_last {ns : List Nat} {k : Nat} (hk0 : k < ns.length) (hk : k + 1 = ns.length) (hns : ∀ a ∈ ns, a < 1000000000) (h0 : ns[k] ≠ 0) : btext ns (k + 1) = Lib.decDigits ns[k] ++ btext ns k := by
  obtain ⟨h1, h2⟩ := limb_of (show k < ns.length by omega) hns
  have e : nv (ns.drop (k + 1)) = 0 := by rw [List.drop_eq_nil_of_le (by omega)]; rfl
  rw [e, Nat.mul_zero, Nat.add_zero] at h2
  unfold btext
  rw [if_pos hk, if_neg (by omega), if_neg (by omega)]
  have hx : nv ns = ns[k] * 10 ^ (9 * k) + nv ns % 10 ^ (9 * k) := by
    have := Nat.div_add_mod (nv ns) (10 ^ (9 * k))
    rw [h1, h2, Nat.mul_comm] at this
    exact this.symm
  have h3 := dec_low ns[k] (9 * k) (nv ns % 10 ^ (9 * k)) (by omega) (Nat.mod_lt _ (Nat.pow_pos (by omega)))
  rw [← hx, ← lowd_mod] at h3
  exact h3

def NtIn (c n k : Nat) (w : World) (p v m : Value) (wr : World) : Prop := ∃ j : Nat, j ≤ 9 ∧ m = .int .i64 j ∧ v = .int .u32 (c / 10 ^ j : Nat) ∧ StrIs p (lowd j c) ∧ (k + 1 = n → j = 0 ∨ c / 10 ^ (j - 1) ≠ 0) ∧ Up w wr
def NtOut (ns : List Nat) (w : World) (o i : Value) (wr : World) : Prop := ∃ k : Nat, k ≤ ns.length ∧ i = .int .i64 k ∧ StrIs o (btext ns k) ∧ Up w wr

theorem one_byte (w : World) (d : Nat) (hd : d < 10) (c : Value) (hc : c = .int .u8 (48 + (d : Int))) : (convert 67 9 (.slice (some ⟨w.heap.size, 0, none⟩) 1 1)).run Tryd.prog (w.alloc (.cells #[c] 5)) = .ok (.string ⟨#[dch d]⟩) (w.alloc (.cells #[c] 5)) := by
  have h := run_convert_bytes_back (P := Tryd.prog) (w.alloc (.cells #[c] 5)) 67 9 5 ⟨w.heap.size, 0, none⟩ 1 [dch d] (by kernel_rfl) (by kernel_rfl) (by kernel_rfl) (fun j hj => by
    obtain rfl : j = 0 := by simpa using hj
    rw [Lib.add_plain, World.cell?_alloc_new, hc]
    unfold dch
    simp [UInt8.toNat_ofNat']
    omega)
  exact h

set_option maxRecDepth 100000 in
set_option maxHeartbeats 3200000 in
theorem natText_any (A : Option Addr) (cap x : Nat) (w : World) (hr : NS w A x) (hl : ln x ≤ 1000) :
    Calls Tryd.prog 34 #[.slice A (ln x) cap] w fun e w' => e = .returned (.string ⟨(Lib.decDigits x).toArray⟩) ∧ Up w w' := by
  unfold NS at hr
  have hnx := nv_digs x
  have hlt := digs_lt x
  have htop : ∀ k, k < (digs x).length → 1 ≤ nv ((digs x).drop k) := fun k hk => nv_top hk
  have hln : (digs x).length = ln x := rfl
  obtain ⟨ns, hns⟩ : ∃ ns, ns = digs x := ⟨_, rfl⟩
  rw [← hns] at hr hnx hlt hln htop
  rw [← hln] at hl ⊢
  clear hns hln
  have HX := Lib.hid hnx
  have HLT := Lib.hid hlt
  have HTOP := Lib.hid htop
  clear hnx hlt htop
  go_enter Tryd.func34, Tryd.ntmps34
  go_wp2_with fail
  go_loopw [3, 4] (fun o i wr => NtOut ns w o i wr) (fun _ i _ => ns.length - (intOf i).toNat)
  case atStart => exact ⟨0, Nat.zero_le _, rfl, by rw [btext_zero]; exact StrIs.nil_, Up.refl _⟩
  case round =>
    obtain ⟨k, hk, rfl, ⟨S, rfl, hS⟩, hU⟩ := hrel
    by_cases hlt : k < ns.length
    · obtain ⟨ad, rfl, had, hcell⟩ := (hr.below hU).nat hlt
      have hc9 := HLT.out ns[k] (List.getElem_mem hlt)
      have hSl : S.size = 9 * k := by rw [Lib.size_eq, hS, btext_len hlt]
      have HS1 := Lib.hid (fun h0 : k + 1 < ns.length => btext_mid hlt h0 HLT.out)
      have HS2 := Lib.hid (fun h0 : k + 1 = ns.length => btext_last hlt h0 HLT.out (by
        have h1 := HTOP.out k hlt
        rw [nv_drop ns k hlt, List.drop_eq_nil_of_le (by omega)] at h1
        simp [nv] at h1
        omega))
      have HZ := Lib.hid (fun h0 : k + 1 = ns.length => (show ns[k] ≠ 0 by
        have h1 := HTOP.out k hlt
        rw [nv_drop ns k hlt, List.drop_eq_nil_of_le (by omega)] at h1
        simp [nv] at h1
        omega))
      have HS := Lib.hid hS
      obtain ⟨c, hcc⟩ : ∃ c, c = ns[k] := ⟨_, rfl⟩
      rw [← hcc] at hcell hc9 HS1 HS2 HZ
      clear hcc hS
      go_wp2_with fail
      go_loopw [5, 6, 7] (fun p v m wr => NtIn c ns.length k w p v m wr) (fun _ _ m _ => 9 - (intOf m).toNat)
      case atStart => exact ⟨0, Nat.zero_le _, rfl, by simp, StrIs.nil_, fun _ => .inl rfl, hU⟩
      case round =>
        obtain ⟨j, hj, rfl, rfl, ⟨Z, rfl, hZ⟩, hlast, hU2⟩ := hrel
        obtain ⟨v, hv⟩ : ∃ v, v = c / 10 ^ j := ⟨_, rfl⟩
        have hv10 : v / 10 = c / 10 ^ (j + 1) := by rw [hv, Nat.div_div_eq_div_mul, Nat.pow_succ]
        have hvd : lowd (j + 1) c = dch (v % 10) :: lowd j c := by rw [lowd_cons, hv]
        have hvle : v ≤ c := by rw [hv]; exact Nat.div_le_self _ _
        have hZs : Z.size = j := by rw [Lib.size_eq, hZ, lowd_length]
        rw [← hv]
        by_cases hgo : j < 9 ∧ (k + 1 < ns.length ∨ v ≠ 0)
        · obtain ⟨h9, hor⟩ := hgo
          have HV := Lib.hid (And.intro hv10 (And.intro hvd hv))
          have HZZ := Lib.hid hZ
          have HOR := Lib.hid hor
          have hone := one_byte wr (v % 10) (Nat.mod_lt _ (by omega))
          have hb1 : decide (j < 9) = true := decide_eq_true h9
          clear hv10 hvd hv hlast hZ
          by_cases hkn : k + 1 < ns.length
          · have hb2 : decide ((k : Int) < (ns.length : Int) - 1) = true := decide_eq_true (by omega)
            go_wp2_with fail
            go_roundw
            case rel =>
              obtain ⟨e1, e2, e3⟩ := HV.out
              refine ⟨j + 1, by omega, by go_num, ?_, ⟨_, rfl, ?_⟩, ?_, ?_⟩
              · rw [← e1]; go_num
              · rw [bytes_app, HZZ.out, e2]; rfl
              · intro h
                exact absurd h (by omega)
              · exact Below.alloc hU2 hU2.size _
            case measure => simp [intOf]; omega
          · have hv0 : v ≠ 0 := by rcases hor with h | h; exact absurd h hkn; exact h
            have hb2 : decide ((k : Int) < (ns.length : Int) - 1) = false := decide_eq_false (by omega)
            have hb3 : decide (0 < v) = true := decide_eq_true (by omega)
            clear hor
            go_wp2_with fail
            go_roundw
            case rel =>
              obtain ⟨e1, e2, e3⟩ := HV.out
              refine ⟨j + 1, by omega, by go_num, ?_, ⟨_, rfl, ?_⟩, ?_, ?_⟩
              · rw [← e1]; go_num
              · rw [bytes_app, HZZ.out, e2]; rfl
              · intro h
                refine .inr ?_
                rw [Nat.add_sub_cancel, ← e3]
                exact hv0
              · exact Below.alloc hU2 hU2.size _
            case measure => simp [intOf]; omega
        · have hcat : Z.data.toList ++ S.data.toList = btext ns (k + 1) := by
            rw [hZ, HS.out]
            by_cases h1 : k + 1 < ns.length
            · have hj9 : j = 9 := by
                rcases Nat.lt_or_ge j 9 with h | h
                · exact absurd ⟨h, .inl h1⟩ hgo
                · omega
              rw [HS1.out h1, hj9]
            · have h2 : k + 1 = ns.length := by omega
              have hv0 : c / 10 ^ j = 0 := by
                rcases Nat.lt_or_ge j 9 with h | h
                · rw [← hv]
                  rcases Nat.eq_zero_or_pos v with h3 | h3
                  · exact h3
                  · exact absurd ⟨h, .inr (by omega)⟩ hgo
                · have hj9 : j = 9 := by omega
                  rw [hj9]
                  exact Nat.div_eq_of_lt (by simpa using hc9)
              rw [HS2.out h2, dec_end (hlast h2) hv0 (HZ.out h2)]
          have HC := Lib.hid hcat
          clear hcat hlast hZ hv hv10 hvd
          rcases Nat.lt_or_ge j 9 with h9 | h9
          · have hb1 : decide (j < 9) = true := decide_eq_true h9
            have hkn : ¬ k + 1 < ns.length := fun h => hgo ⟨h9, .inl h⟩
            have hv0 : v = 0 := by
              rcases Nat.eq_zero_or_pos v with h3 | h3
              · exact h3
              · exact absurd ⟨h9, .inr (by omega)⟩ hgo
            have hb2 : decide ((k : Int) < (ns.length : Int) - 1) = false := decide_eq_false (by omega)
            subst hv0
            clear hgo
            go_wp2_with fail
            go_roundw
            case rel => exact ⟨k + 1, by omega, by go_num, ⟨_, rfl, by rw [bytes_app]; exact HC.out⟩, hU2⟩
            case measure => simp [intOf]; omega
          · have hj9 : j = 9 := by omega
            subst hj9
            clear hgo
            go_wp2_with fail
            go_roundw
            case rel => exact ⟨k + 1, by omega, by go_num, ⟨_, rfl, by rw [bytes_app]; exact HC.out⟩, hU2⟩
            case measure => simp [intOf]; omega
    · have hk' : k = ns.length := by omega
      subst hk'
      by_cases h0 : ns.length = 0
      · have hx : x = 0 := by
          rw [← HX.out, List.eq_nil_of_length_eq_zero h0]; rfl
        have hS0 : S = ⟨#[]⟩ := by
          have h1 : S.data.toList = [] := by rw [hS]; unfold btext; rw [if_pos rfl, if_pos h0]
          cases S with
          | mk d => simp at h1; rw [h1]
        have HD := Lib.hid (show Lib.decDigits x = [48] by rw [hx]; exact Lib.decDigits_one (by omega))
        subst hS0
        clear hx h0 hS
        go_wp2_with fail
        go_ret
        rw [HD.out]
        exact ⟨rfl, hU⟩
      · rw [btext_end h0, HX.out] at hS
        have hSd : S = ⟨(Lib.decDigits x).toArray⟩ := by rw [← hS]
        have hne : S.toList.isEmpty = false := by
          rw [ByteArray.toList_eq, hS, List.isEmpty_eq_false_iff]
          intro h
          have := dec_len_pos x
          rw [h] at this
          simp at this
        have HE := Lib.hid hSd
        clear hS hSd h0
        go_wp2_with fail
        go_ret
        rw [HE.out]
        exact ⟨rfl, hU⟩
end Go.Proofs.YtefiapjfiojaoaaDoor
