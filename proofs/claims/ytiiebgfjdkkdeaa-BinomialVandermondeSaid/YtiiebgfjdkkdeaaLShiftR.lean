/-
  The document's Shift.
-/
import Derived.Test.YtiiebgfjdkkdeaaLDiff
import Derived.Test.YtiiebgfjdkkdeaaLAt
namespace Go.Proofs.Ytiiebgfjdkkdeaa
open Go.RowKit

/-- What Shift answers. -/
def shB (ps : List Rat) (c : Int) : Bool := decide (ps.length ≤ 33 ∧ -1048576 ≤ c ∧ c ≤ 1048576)
def shV (ps : List Rat) (c : Int) : List Rat := if ps.length ≤ 33 ∧ -1048576 ≤ c ∧ c ≤ 1048576 then cutL (psh ps (c : Rat)) else []
theorem sh_no {ps : List Rat} {c : Int} (h : ¬ (ps.length ≤ 33 ∧ -1048576 ≤ c ∧ c ≤ 1048576)) : shV ps c = [] ∧ shB ps c = false := by
  unfold shV shB; rw [if_neg h]; exact ⟨rfl, by simpa using h⟩
theorem sh_yes {ps : List Rat} {c : Int} (h1 : ps.length ≤ 33) (h2 : -1048576 ≤ c) (h3 : c ≤ 1048576) : shV ps c = cutL (psh ps (c : Rat)) ∧ shB ps c = true := by
  unfold shV shB; rw [if_pos ⟨h1, h2, h3⟩]; exact ⟨rfl, by simp [h1, h2, h3]⟩
/-- The polynomial with the values of q. -/
theorem newton_cut (q l : List Rat) (hl : q.length ≤ l.length) (h : ∀ i, i < l.length → l.getD i 0 = pat q (i : Rat)) : cutL (newton l.length (fun i => l.getD i 0)) = cutL q := by
  apply cutL_ext
  intro k
  by_cases hk : k < l.length
  · exact newton_of l.length (fun k => q.getD k 0) _ (fun i hi => by rw [h i hi]; exact pat_more q _ hl) k hk
  · rw [newton_getD, if_neg hk, getD_len (by omega)]
theorem psh_len (ps : List Rat) (c : Rat) : (psh ps c).length = ps.length := by simp [psh]
/-- The values at c, c + 1, .. -/
def shVals (ps : List Rat) (c : Int) (k : Nat) : List Rat := (List.range k).map (fun i => pat ps ((((i : Nat) : Int) + c : Int) : Rat))
theorem shVals_len (ps : List Rat) (c : Int) (k : Nat) : (shVals ps c k).length = k := by simp [shVals]
theorem shVals_snoc (ps : List Rat) (c : Int) (k : Nat) : shVals ps c (k + 1) = shVals ps c k ++ [pat ps ((((k : Nat) : Int) + c : Int) : Rat)] := by simp [shVals, List.range_succ]
theorem shVals_cut (ps : List Rat) (c : Int) : cutL (newton ps.length (fun i => (shVals ps c ps.length).getD i 0)) = cutL (psh ps (c : Rat)) := by
  have h := newton_cut (psh ps (c : Rat)) (shVals ps c ps.length) (by rw [psh_len, shVals_len]; exact Nat.le_refl _) (fun i hi => by
    rw [shVals_len] at hi
    rw [psh_pat, shVals, range_getD, if_pos hi, Rat.intCast_add, Rat.intCast_natCast])
  rwa [shVals_len] at h
theorem shVals_mem {ps : List Rat} {B : Nat} (h : ∀ q ∈ ps, qs q ≤ B) (hB : 3 ≤ B) (hl : ps.length ≤ 64) {c : Int} (h1 : -1048576 ≤ c) (h2 : c ≤ 1048576) {k : Nat} (hk : k ≤ 64) : ∀ q ∈ shVals ps c k, qs q ≤ 64 * (B + 388) + 3 := fun q hq => by
  simp only [shVals, List.mem_map, List.mem_range] at hq
  obtain ⟨i, hi, rfl⟩ := hq
  exact qs_pat ps B h hB _ (by omega) (by omega) hl

set_option maxRecDepth 100000 in
set_option maxHeartbeats 3200000 in
theorem rShift_q {o : Option Nat} {A : Option Addr} {cap : Nat} {ps : List Rat} {B : Nat} {w : World} (h : RX o w A ps) (hB : ∀ q ∈ ps, XB o q B) (hB2 : 2 ≤ B) (hB' : B ≤ 90000) (hl : ps.length ≤ 1000) (c : Int) (hc1 : -9223372036854775808 ≤ c) (hc2 : c ≤ 9223372036854775807) :
    Calls Try.prog 25 #[.slice A ps.length cap, .int .i64 c] w (RetLB w (shV ps c) (shB ps c)) := by
  by_cases hyes : ps.length ≤ 33 ∧ -1048576 ≤ c ∧ c ≤ 1048576
  · obtain ⟨hl33, hcl, hch⟩ := hyes
    have HP := Lib.hid (sh_yes hl33 hcl hch)
    have hq := h.qs hB
    have HQP := Lib.hid (fun (z : Int) (h1 : -4611686018427387904 ≤ z) (h2 : z ≤ 9223372036854775807) => show qs (pat ps (z : Rat)) ≤ 64 * (B + 1 + 388) + 3 from qs_pat ps (B + 1) hq (by omega) z h1 h2 (by omega))
    have HAT := Lib.hid (fun (z : Int) wx vx (u : Up w wx) (h1 : -9223372036854775808 ≤ z) (h2 : z ≤ 9223372036854775807) (hv : QV wx vx (z : Rat)) => at_q (cap := cap) (h.up u) hB hB2 hB' (by omega) (hv.iv (B := 3) (qs_int z h1 h2)) (by omega))
    have HSM := Lib.hid (fun k (hk : k ≤ 64) => shVals_mem hq (by omega) (by omega) hcl hch hk)
    have HSC := Lib.hid (shVals_cut ps c)
    obtain ⟨N, hN⟩ : ∃ L, L = ps.length := ⟨_, rfl⟩
    rw [← hN] at hl33 HAT HSC ⊢
    have t0 : decide (33 < N) = false := by simp; omega
    have t0i : decide ((33 : Int) < (N : Int)) = false := by simp; omega
    have t1 : decide (c < -1048576) = false := by simp; omega
    have t2 : decide (1048576 < c) = false := by simp; omega
    clear h hB hN hl hq
    go_enter Try.func25, Try.ntmps25
    go_wp2_with fail
    go_loopw [6, 7] (fun v iv wr => ∃ k : Nat, k ≤ N ∧ iv = .int .i64 k ∧ Hid (AX none wr w.heap.size v (shVals ps c k)) ∧ Up w wr) (fun _ iv _ => N - (intOf iv).toNat)
    case atStart => exact ⟨0, Nat.zero_le _, rfl, Lib.hid AX.nil_, Up.refl _⟩
    case round =>
      obtain ⟨k, hk, rfl, HA, hU⟩ := hrel
      clear t0 t0i t1 t2
      by_cases hkN : k < N
      · have t1 : decide ((k : Int) < (N : Int)) = true := by simp; omega
        have t2 : decide (k < N) = true := by simp; omega
        have HF := Lib.hid (fun (wx : World) => rFromInt_q ((k : Int) + c) (by omega) (by omega) (w := wx))
        have HT := Lib.hid (shVals_snoc ps c k)
        have HB := Lib.hid (fun wx vx (u : Up w wx) (hv : QV wx vx (((k : Int) + c : Int) : Rat)) => HAT.out ((k : Int) + c) wx vx u (by omega) (by omega) hv)
        obtain ⟨z, hz⟩ : ∃ z, z = pat ps ((((k : Nat) : Int) + c : Int) : Rat) := ⟨_, rfl⟩
        rw [← hz] at HT HB
        have HLN := Lib.hid (show (shVals ps c k).length + [z].length ≤ 1000000 by rw [shVals_len]; simp; omega)
        have ki1 : (0 : Int) ≤ k := by omega
        have ki2 : (k : Int) < N := by omega
        have ki3 : -2000000 ≤ (k : Int) + c := by omega
        have ki4 : (k : Int) + c ≤ 2000000 := by omega
        clear hz
        go_wp2_with fail
        refine (HF.out _).mono ?_
        rintro e w2 ⟨v2, rfl, hQ2, U2⟩
        obtain ⟨s2, A2, n2, c2, B2, m2, d2, rfl⟩ := hQ2.shape
        have HB2 := Lib.hid (HB.out _ _ (hU.trans U2) hQ2)
        clear hQ2
        go_wp2_with fail
        refine HB2.out.mono ?_
        rintro e w7 ⟨v7, rfl, hQ7, U7⟩
        obtain ⟨s7, A7, n7, c7, B7, m7, d7, rfl⟩ := hQ7.shape
        have U8 : Up w7 (w7.alloc (Obj.cells #[.bool s7, .slice A7 n7 c7, .slice B7 m7 d7] 24)) := Below.alloc (Up.refl _) (Nat.le_refl _) _
        have HA8 := Lib.hid (HA.out.up (U2.trans (U7.trans U8)))
        have HR8 := Lib.hid (RX.one (m := none) (Blk.new w7 24 #[.bool s7, .slice A7 n7 c7, .slice B7 m7 d7]) (hQ7.up U8))
        have hV8 := hU.trans (U2.trans (U7.trans U8))
        have hsz := hV8.size
        clear hQ7 U8
        go_wp2_with (first
          | (at_builtin; refine wpList_append_rats rfl _ _ rfl rfl HA8.out rfl rfl HR8.out (fun h => by cases h) HLN.out hsz ?_))
        intro v9 w9 hA9
        have hV9 := hA9.below hV8 HA8.out hsz
        have HA9 := hA9.own
        rw [← HT.out] at HA9
        have HA9 := Lib.hid HA9
        clear hA9 hsz hV8
        go_wp2_with fail
        go_roundw
        case rel => exact ⟨k + 1, by omega, by go_num, HA9, hV9⟩
        case measure => simp [intOf]; omega
      · have t1 : decide ((k : Int) < (N : Int)) = false := by simp; omega
        have t2 : decide (k < N) = false := by simp; omega
        obtain rfl : k = N := by omega
        obtain ⟨A9, c9, rfl, h1, h2, h3⟩ := HA.out.rx
        have hnc : A9 = none → c9 = 0 := by
          rcases HA.out with ⟨vs, ⟨_, hv⟩, _⟩
          intro e
          subst e
          rcases hv with ⟨hv, _⟩ | ⟨g, cp, cr, hv, _⟩
          · injection hv
          · injection hv with hv; cases hv
        have HD := differences_q (cap := c9) (B := 64 * (B + 1 + 388) + 3) h3 (HSM.out k (by omega)) (by omega) (by rw [shVals_len]; omega) hnc
        have HD := Lib.hid HD
        have HLE := Lib.hid (show cutL (newton (shVals ps c k).length (fun i => (shVals ps c k).getD i 0)) = cutL (psh ps (c : Rat)) by rw [shVals_len]; exact HSC.out)
        clear h1 h2 h3 hnc HA
        go_wp2_with fail
        refine HD.out.mono ?_
        rw [HLE.out]
        rintro e w10 ⟨A10, c10, rfl, h1, h2, h3, h4⟩
        have H9 := Lib.hid (And.intro h1 (And.intro h2 h3))
        clear h1 h2 h3
        go_wp2_with fail
        go_ret2
        exact ⟨A10, c10, by rw [HP.out.1, HP.out.2]; rfl, by rw [HP.out.1]; exact H9.out.1, H9.out.2.1, by rw [HP.out.1]; exact H9.out.2.2, hU.trans h4⟩
  · have HP := Lib.hid (sh_no hyes)
    by_cases h1 : 33 < ps.length
    · have t0 : decide (33 < ps.length) = true := by simpa using h1
      have t0i : decide ((33 : Int) < (ps.length : Int)) = true := by simp; omega
      clear hyes h hB
      go_enter Try.func25, Try.ntmps25
      go_wp2_with fail
      go_ret2
      exact ⟨none, 0, by rw [HP.out.1, HP.out.2]; rfl, by rw [HP.out.1]; exact Nat.le_refl _, by omega, by rw [HP.out.1]; exact RX.nil_, Up.refl _⟩
    by_cases h2 : c < -1048576
    · have t0 : decide (33 < ps.length) = false := by simpa using h1
      have t0i : decide ((33 : Int) < (ps.length : Int)) = false := by simp; omega
      have t1 : decide (c < -1048576) = true := by simpa using h2
      clear hyes h hB
      go_enter Try.func25, Try.ntmps25
      go_wp2_with fail
      go_ret2
      exact ⟨none, 0, by rw [HP.out.1, HP.out.2]; rfl, by rw [HP.out.1]; exact Nat.le_refl _, by omega, by rw [HP.out.1]; exact RX.nil_, Up.refl _⟩
    have h3 : 1048576 < c := by omega
    have t0 : decide (33 < ps.length) = false := by simpa using h1
    have t0i : decide ((33 : Int) < (ps.length : Int)) = false := by simp; omega
    have t1 : decide (c < -1048576) = false := by simpa using h2
    have t2 : decide (1048576 < c) = true := by simpa using h3
    clear hyes h hB
    go_enter Try.func25, Try.ntmps25
    go_wp2_with fail
    go_ret2
    exact ⟨none, 0, by rw [HP.out.1, HP.out.2]; rfl, by rw [HP.out.1]; exact Nat.le_refl _, by omega, by rw [HP.out.1]; exact RX.nil_, Up.refl _⟩
end Go.Proofs.Ytiiebgfjdkkdeaa
