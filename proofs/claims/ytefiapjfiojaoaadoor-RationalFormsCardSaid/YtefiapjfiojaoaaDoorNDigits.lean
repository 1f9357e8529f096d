/-
  The contract of rational.digits: the decimal digits of a number.
-/
import Derived.Test.YtefiapjfiojaoaaDoorNUint
import Derived.Test.YtefiapjfiojaoaaDoorPA
import Derived.Lib.Repeat
namespace Go.Proofs.YtefiapjfiojaoaaDoor
open Go Go.RowKit

theorem ba_up {T e : TypeId} {B b : Nat} {p : Value} {bs : List Value} {w w' : World} (h : Lib.BuilderAt T e B b p bs w) (u : Up w w') : Lib.BuilderAt T e B b p bs w' := by
  obtain ⟨hB, v, hb, hown, hne⟩ := h
  have lt : ∀ {g : Nat} {o : Obj}, w.heap[g]? = some o → g < w.heap.size := fun {g o} h => by
    rcases Nat.lt_or_ge g w.heap.size with h' | h'
    · exact h'
    · simp [Array.getElem?_eq_none h'] at h
  refine ⟨hB, v, (u.block b (lt hb)).trans hb, ?_, hne⟩
  obtain ⟨h1, h2⟩ := hown
  refine ⟨h1, ?_⟩
  rcases h2 with h | ⟨g, cap, cur, rfl, hg, hcur, h3⟩
  · exact .inl h
  · exact .inr ⟨g, cap, cur, rfl, hg, (u.block g (lt hcur)).trans hcur, h3⟩
theorem ib_up {T e : TypeId} {B b : Nat} {bs : List Value} {w w' : World} (h : Lib.IsBuilder T e B b bs w) (u : Up w w') : Lib.IsBuilder T e B b bs w' := h.elim (fun h => .inl (ba_up h u)) (fun h => .inr (ba_up h u))

/-- The digits of the k limbs on top. -/
def ldig (ns : List Nat) (k : Nat) : List UInt8 := if k = 0 then [] else Lib.decDigits (nv (ns.drop (ns.length - k)))
theorem ldig_zero (ns : List Nat) : ldig ns 0 = [] := if_pos rfl
theorem ldig_all {ns : List Nat} (h : ns.length ≠ 0) : ldig ns ns.length = Lib.decDigits (nv ns) := by
  unfold ldig; rw [if_neg h, Nat.sub_self, List.drop_zero]
theorem ldig_one {ns : List Nat} {j : Nat} (hj : j < ns.length) (h : j = ns.length - 1 - 0) : ldig ns (0 + 1) = Lib.decDigits ns[j] := by
  unfold ldig
  rw [if_neg (by omega), show ns.length - (0 + 1) = j from by omega, nv_drop ns j hj, List.drop_eq_nil_of_le (by omega)]
  simp [nv]
theorem ldig_step {ns : List Nat} {j k : Nat} (hj : j < ns.length) (h : j = ns.length - 1 - k) (hk : 0 < k) (hkn : k < ns.length) (hc : ns[j] < 1000000000) (hV : 1 ≤ nv (ns.drop (ns.length - k))) :
    ldig ns (k + 1) = ldig ns k ++ (List.replicate (9 - (Lib.decDigits ns[j]).length) 48 ++ Lib.decDigits ns[j]) := by
  unfold ldig
  rw [if_neg (by omega), if_neg (by omega), show ns.length - (k + 1) = j from by omega, nv_drop ns j hj, show j + 1 = ns.length - k from by omega, dec_limb hV hc]
theorem byte_app (a b : List UInt8) : Lib.byteCells (a ++ b) = Lib.byteCells a ++ Lib.byteCells b := List.map_append
theorem rep_one (c : Nat) : Lib.repeatL [48] c = List.replicate c 48 := by
  have h := Lib.repeatL_replicate 48 1 c
  rwa [Nat.mul_one] at h
theorem ldig_len_gen {ns : List Nat} {k M : Nat} (hk : k ≤ ns.length) (hns : ∀ a ∈ ns, a < 1000000000) (hl : 9 * ns.length ≤ M) (hM : 1 ≤ M) : (ldig ns k).length ≤ M := by
  unfold ldig
  split
  · simp
  · refine dec_len_le hM ?_
    have h1 := nv_lt (ns.drop (ns.length - k)) (fun a ha => hns a (List.mem_of_mem_drop ha))
    refine Nat.lt_of_lt_of_le h1 ?_
    rw [show (1000000000 : Nat) = 10 ^ 9 from rfl, ← Nat.pow_mul]
    exact Nat.pow_le_pow_right (by omega) (by rw [List.length_drop]; omega)
theorem ldig_len {ns : List Nat} {k : Nat} (hk : k ≤ ns.length) (hns : ∀ a ∈ ns, a < 1000000000) (hl : ns.length ≤ 1000) : (ldig ns k).length ≤ 9000 := ldig_len_gen hk hns (by omega) (by omega)

def TB : TypeId := 69
def DigR (ns : List Nat) (B : Nat) (w : World) (i : Value) (wr : World) : Prop := ∃ k : Nat, k ≤ ns.length ∧ i = .int .i64 k ∧ Lib.IsBuilder 69 5 B B (Lib.byteCells (ldig ns k)) wr ∧ Up w wr
theorem write_t (B : Nat) (l : List UInt8) (s : ByteArray) (w : World) (h : Lib.IsBuilder 69 5 B B (Lib.byteCells l) w) (h1 : l.length ≤ 10000) (h2 : s.size ≤ 10000) (hBw : B ≤ w.heap.size) :
    Calls Tryd.prog 45 #[.pointer (some ⟨B, 0, none⟩), .string s] w fun e w' => e = .returned (.tuple #[.int .i64 s.size, .nilIface]) ∧ Lib.IsBuilder 69 5 B B (Lib.byteCells (l ++ s.data.toList)) w' ∧ Below B w w' :=
  (Tryd.Builder_WriteString B B (Lib.byteCells l) s w h (by simp only [Lib.byteCells, List.length_map]; omega) hBw).mono fun e w' ⟨h1, h2, h3⟩ => ⟨h1, by rw [byte_app]; exact .inr h2, h3⟩
theorem repeat_t (c : Nat) (hc : c ≤ 9) (w : World) : Calls Tryd.prog 46 #[.string ⟨#[48]⟩, .int .i64 c] w fun e w' => ∃ R : ByteArray, e = .returned (.string R) ∧ R.data.toList = List.replicate c 48 ∧ R.size ≤ 9 ∧ Up w w' :=
  (Tryd.strings_Repeat ⟨#[48]⟩ c w (by omega) (by show 1 * c ≤ _; omega)).mono fun e w' ⟨h1, h2⟩ => ⟨⟨(List.replicate c 48).toArray⟩, by rw [h1, ← rep_one], by simp, by rw [Lib.size_eq]; simp; exact hc, h2⟩
theorem uint_t (u : Nat) (hu : u < 1000000000) (w : World) (htab : TabW w) : Calls Tryd.prog 44 #[.int .u64 u, .int .i64 10] w fun e w' => ∃ R : ByteArray, e = .returned (.string R) ∧ R.data.toList = Lib.decDigits u ∧ R.size = (Lib.decDigits u).length ∧ R.size ≤ 9 ∧ Up w w' :=
  (uint_any u (by omega) w htab).mono fun e w' ⟨h1, h2⟩ => ⟨_, h1, by simp, by rw [Lib.size_eq], by rw [Lib.size_eq]; simp; exact dec_len_le (by omega) (by simpa using hu), h2⟩

set_option maxRecDepth 100000 in
set_option maxHeartbeats 3200000 in
theorem digits_any (A : Option Addr) (cap x : Nat) (w : World) (hr : NS w A x) (hl : ln x ≤ 1000) (htab : TabW w) :
    Calls Tryd.prog 28 #[.slice A (ln x) cap] w fun e w' => e = .returned (.string ⟨(Lib.decDigits x).toArray⟩) ∧ Up w w' := by
  by_cases h0 : ln x = 0
  · have hx : x = 0 := by have := ln_le.1 (Nat.le_of_eq h0); omega
    have hb : ((ln x : Int) == 0) = true := beq_iff_eq.2 (by omega)
    have hd := Lib.hid (show (Lib.decDigits x) = [48] by rw [hx]; exact Lib.decDigits_one (by omega))
    clear hx h0 hr htab
    go_enter Tryd.func28, Tryd.ntmps28
    go_wp2_with fail
    go_ret
    rw [hd.out]
    exact ⟨rfl, Up.refl _⟩
  unfold NS at hr
  have hnx := nv_digs x
  have hlt := digs_lt x
  have htop : ∀ k, k < (digs x).length → 1 ≤ nv ((digs x).drop k) := fun k hk => nv_top hk
  have hln : (digs x).length = ln x := rfl
  obtain ⟨ns, hns⟩ : ∃ ns, ns = digs x := ⟨_, rfl⟩
  rw [← hns] at hr hnx hlt hln htop
  rw [← hln] at hl h0 ⊢
  clear hns hln
  have HX := Lib.hid hnx
  have HLT := Lib.hid hlt
  have HTOP := Lib.hid htop
  have HT := Lib.hid htab
  have hb : ((ns.length : Int) == 0) = false := beq_eq_false_iff_ne.2 (by omega)
  have HN := Lib.hid h0
  clear hnx hlt htop htab h0
  go_enter Tryd.func28, Tryd.ntmps28
  go_wp2_with fail
  obtain ⟨w1, hw1⟩ : ∃ w1, w1 = w.alloc (Obj.cells #[.pointer none, .slice none 0 0] 69) := ⟨_, rfl⟩
  have HB1 := Lib.hid (show Lib.IsBuilder 69 5 w.heap.size w.heap.size (Lib.byteCells (ldig ns 0)) w1 by rw [hw1]; exact Lib.fresh_isBuilder _ _ w)
  have HU1 := Lib.hid (show Up w w1 by rw [hw1]; exact (Below.refl _ _).alloc (Nat.le_refl _) _)
  rw [← hw1]
  clear hw1
  go_loopw [11] (fun i wr => DigR ns w.heap.size w i wr) (fun i _ => ns.length - (intOf i).toNat)
  case atStart => exact ⟨0, Nat.zero_le _, rfl, HB1.out, HU1.out⟩
  case round =>
    obtain ⟨k, hk, rfl, hB, hU⟩ := hrel
    have HB := Lib.hid hB
    have hus := hU.size
    clear hB
    by_cases hlt : k < ns.length
    · obtain ⟨j, hj⟩ : ∃ j, j = ns.length - 1 - k := ⟨_, rfl⟩
      have hjl : j < ns.length := by omega
      obtain ⟨ad, rfl, had, hcell⟩ := (hr.below hU).nat hjl
      have hc9 := HLT.out ns[j] (List.getElem_mem hjl)
      have hll := ldig_len hk HLT.out hl
      have HS1 := Lib.hid (fun h0 : k = 0 => ldig_one hjl (by omega))
      have HS2 := Lib.hid (fun h0 : 0 < k => ldig_step hjl hj h0 hlt hc9 (HTOP.out _ (by omega)))
      obtain ⟨c, hcc⟩ : ∃ c, c = ns[j] := ⟨_, rfl⟩
      rw [← hcc] at hcell hc9 HS1 HS2
      have hji : (ns.length : Int) - 1 - k = (j : Int) := by omega
      clear hcc hj
      go_wp2_with fail
      refine (uint_t c hc9 _ (HT.out.up hU)).mono ?_
      rintro e w2 ⟨R, rfl, hR, hRs, hR9, hU2⟩
      have HB2 := Lib.hid (ib_up HB.out hU2)
      have HU2 := Lib.hid (Up.trans hU hU2)
      have hus2 := (Up.trans hU hU2).size
      have HR := Lib.hid (And.intro hR hRs)
      clear hU2 hR hRs hcell HB
      by_cases h0 : k = 0
      · have e1 := HS1.out h0
        subst h0
        have HW := Lib.hid (write_t w.heap.size (ldig ns 0) R w2 HB2.out (by omega) (by omega) (by omega))
        have HE := Lib.hid e1
        clear e1
        go_wp2_with fail
        refine HW.out.mono ?_
        rintro e w3 ⟨rfl, hB3, hU3⟩
        rw [HR.out.1, ldig_zero, List.nil_append, ← HE.out] at hB3
        have HB3 := Lib.hid hB3
        have HU3 := Lib.hid (Below.trans HU2.out hU3)
        clear hB3 hU3
        go_wp2_with fail
        go_roundw
        case rel => exact ⟨0 + 1, by omega, by go_num, HB3.out, HU3.out⟩
        case measure => simp [intOf]; omega
      · have hk0 : 0 < k := by omega
        have hd : decide (0 < k) = true := decide_eq_true hk0
        have e2 := HS2.out hk0
        have h9 : (9 : Int) - (R.size : Int) = ((9 - R.size : Nat) : Int) := by omega
        have HE := Lib.hid e2
        clear e2
        go_wp2_with fail
        refine (repeat_t (9 - R.size) (by omega) w2).mono ?_
        rintro e w3 ⟨Z, rfl, hZ, hZ9, hU3⟩
        have HW := Lib.hid (write_t w.heap.size (ldig ns k) Z w3 (ib_up HB2.out hU3) (by omega) (by omega) (by have := hU3.size; omega))
        have HU3 := Lib.hid (Up.trans HU2.out hU3)
        have HZ := Lib.hid hZ
        have hus3 := (Up.trans HU2.out hU3).size
        clear hU3 hZ
        go_wp2_with fail
        refine HW.out.mono ?_
        rintro e w4 ⟨rfl, hB4, hU4⟩
        rw [HZ.out] at hB4
        have HW2 := Lib.hid (write_t w.heap.size _ R w4 hB4 (by rw [List.length_append, List.length_replicate]; omega) (by omega) (by have := hU4.size; omega))
        have HU4 := Lib.hid (Below.trans HU3.out hU4)
        clear hU4 hB4
        go_wp2_with fail
        refine HW2.out.mono ?_
        rintro e w5 ⟨rfl, hB5, hU5⟩
        rw [HR.out.1, List.append_assoc, HR.out.2, ← HE.out] at hB5
        have HB5 := Lib.hid hB5
        have HU5 := Lib.hid (Below.trans HU4.out hU5)
        clear hB5 hU5
        go_wp2_with fail
        go_roundw
        case rel => exact ⟨k + 1, by omega, by go_num, HB5.out, HU5.out⟩
        case measure => simp [intOf]; omega
    · have hk' : k = ns.length := by omega
      subst hk'
      have hB2 := HB.out
      rw [ldig_all HN.out, HX.out] at hB2
      have HS := Lib.hid (Tryd.Builder_String_any w.heap.size w.heap.size (Lib.decDigits x) wr hB2 hus)
      clear hB2 HB
      go_wp2_with fail
      refine HS.out.mono ?_
      rintro e w2 ⟨rfl, hU2⟩
      have HU2 := Lib.hid (Below.trans hU hU2)
      clear hU2
      go_wp2_with fail
      go_ret
      exact ⟨rfl, HU2.out⟩
end Go.Proofs.YtefiapjfiojaoaaDoor
