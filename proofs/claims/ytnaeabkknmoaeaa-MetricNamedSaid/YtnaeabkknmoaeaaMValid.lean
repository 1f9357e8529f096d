/-
  The contracts of metric.bounded, metric.Valid and of the reference's Valid.
-/
import Derived.Test.YtnaeabkknmoaeaaRows
import Derived.Test.YtnaeabkknmoaeaaWords
namespace Go.Proofs.Ytnaeabkknmoaeaa
open Go.RowKit

def inB (n : Int) : Bool := decide (-1000 ≤ n) && decide (n ≤ 1000)
theorem inB_of {n : Int} (h : inB n = true) : -1000 ≤ n ∧ n ≤ 1000 := by simpa [inB] using h
theorem inB_not {n : Int} (h : inB n = false) : n < -1000 ∨ (-1000 ≤ n ∧ decide (n ≤ 1000) = false) := by simp [inB] at h ⊢; omega
def bndB (l : List Int) : Bool := decide (l.length = 26) && l.all inB
theorem all_step {p : Int → Bool} {zs : List Int} {k : Nat} (hk : k < zs.length) (h : (zs.take k).all p = true) (hz : p zs[k] = true) : (zs.take (k + 1)).all p = true := by
  rw [List.take_succ_eq_append_getElem hk, List.all_append, h]; simp [hz]
theorem all_not {p : Int → Bool} {zs : List Int} {k : Nat} (hk : k < zs.length) (hz : p zs[k] = false) : zs.all p = false := by
  rw [Bool.eq_false_iff]
  intro h
  rw [List.all_eq_true] at h
  have := h zs[k] (List.getElem_mem hk)
  rw [hz] at this; cases this

set_option maxHeartbeats 800000 in
theorem bounded_any (A : Option Addr) (cap : Nat) (zs : List Int) (B : Nat) (w : World) (hr : SI w B .i64 A zs) (hm : zs.length ≤ 9223372036854775807) :
    Calls Try.prog 41 #[.slice A zs.length cap] w fun e w' => e = .returned (.bool (bndB zs)) ∧ w = w' := by
  by_cases hl : zs.length = 26
  · have hb0 : decide ((zs.length : Int) = 26) = true := by simp; omega
    have hb1 : ((zs.length : Int) == 26) = true := by simp; omega
    have hb2 : ((zs.length : Int) != 26) = false := by simp; omega
    have HL := Lib.hid hl
    have hl1 : zs.length ≤ 26 := by omega
    have hl2 : 26 ≤ zs.length := by omega
    clear hl
    go_enter Try.func41, Try.ntmps41
    go_wp2
    go_loop [10] (fun i => ∃ k : Nat, k ≤ zs.length ∧ i = .int .i64 k ∧ (zs.take k).all inB = true) (fun i => zs.length - (intOf i).toNat)
    case atStart => exact ⟨0, Nat.zero_le _, rfl, by simp⟩
    case round =>
      obtain ⟨k, hk, rfl, hall⟩ := hrel
      by_cases hlt : k < zs.length
      · obtain ⟨ad, rfl, had, hcell⟩ := hr.at_ hlt
        have hs := all_step hlt hall
        have hn := all_not (p := inB) hlt
        obtain ⟨z, hz⟩ : ∃ z, z = zs[k] := ⟨_, rfl⟩
        rw [← hz] at hcell hs hn
        clear hz
        cases hzk : inB z with
        | true =>
          have HS := Lib.hid (hs hzk)
          have hz := inB_of hzk
          clear hs hn hzk hall
          go_wp2
          go_round
          case rel => exact ⟨k + 1, by omega, by go_num, HS.out⟩
          case measure => simp [intOf]; omega
        | false =>
          have HN := Lib.hid (hn hzk)
          have hz := inB_not hzk
          clear hs hn hzk hall
          rcases hz with hz | ⟨hz, hz'⟩
          all_goals
            go_wp2
            go_ret
            exact ⟨ret_bool (by simp [bndB, HN.out]), rfl⟩
      · have hk' : k = zs.length := by omega
        subst hk'
        rw [List.take_length] at hall
        have HA := Lib.hid hall
        clear hall
        go_wp2
        go_ret
        exact ⟨ret_bool (by simp [bndB, HA.out, HL.out]), rfl⟩
  · have hb2 : ((zs.length : Int) != 26) = true := by simp; omega
    have HL := Lib.hid hl
    clear hl
    go_enter Try.func41, Try.ntmps41
    go_wp2
    go_ret
    exact ⟨ret_bool (by simp [bndB, HL.out]), rfl⟩

def validB (b f : List Int) : Bool :=
  bndB b && bndB f && decide (b.getD 25 0 ≤ 0) && decide (f.getD 25 0 ≤ 0) && decide (0 ≤ b.getD 24 0) && decide (0 ≤ f.getD 24 0) && (f.getD 20 0 == 0)
theorem bndB_len {l : List Int} (h : bndB l = true) : l.length = 26 := by simp [bndB] at h; exact h.1

/-- a slice of 26 numbers: three of its cells -/
theorem SI.three {w : World} {B : Nat} {A : Option Addr} {l : List Int} (h : SI w B .i64 A l) (hl : l.length = 26) :
    ∃ ad, A = some ad ∧ ad.block < B ∧ w.cell? ⟨ad.block, ad.off + 25, none⟩ = some (.int .i64 (l.getD 25 0)) ∧ w.cell? ⟨ad.block, ad.off + 24, none⟩ = some (.int .i64 (l.getD 24 0)) ∧ w.cell? ⟨ad.block, ad.off + 20, none⟩ = some (.int .i64 (l.getD 20 0)) := by
  obtain ⟨ad, e, hb, hc⟩ := h (by omega)
  refine ⟨ad, e, hb, ?_, ?_, ?_⟩
  · have := hc 25 (by omega); simp [Addr.add] at this; rw [this]; simp [hl]
  · have := hc 24 (by omega); simp [Addr.add] at this; rw [this]; simp [hl]
  · have := hc 20 (by omega); simp [Addr.add] at this; rw [this]; simp [hl]

set_option maxHeartbeats 1600000 in
theorem valid_any (A : Option Addr) (c : Nat) (B : Option Addr) (d : Nat) (b f : List Int) (w : World) (hb : SI w w.heap.size .i64 A b) (hf : SI w w.heap.size .i64 B f)
    (hm : b.length ≤ 9223372036854775807) (hm' : f.length ≤ 9223372036854775807) :
    Calls Try.prog 15 #[.agg #[.slice A b.length c, .slice B f.length d]] w fun e w' => e = .returned (.bool (validB b f)) ∧ Up w w' := by
  have hb1 := Lib.hid (fun (W : World) (hU : Below w.heap.size w W) => bounded_any A c b w.heap.size W (hb.below hU) hm)
  have hf1 := Lib.hid (fun (W : World) (hU : Below w.heap.size w W) => bounded_any B d f w.heap.size W (hf.below hU) hm')
  cases hbb : bndB b with
  | false =>
    have HV : Hid (validB b f = false) := by simp [validB, hbb, Hid]
    rw [hbb] at hb1
    clear hbb
    go_enter Try.func15, Try.ntmps15
    go_wp2_with fail
    refine (hb1.out _ (by exact (Below.refl _ _).alloc (Nat.le_refl _) _)).mono ?_
    rintro e w1 ⟨rfl, rfl⟩
    go_wp2_with fail
    go_ret
    exact ⟨ret_bool HV.out.symm, (Below.refl _ _).alloc (Nat.le_refl _) _⟩
  | true =>
    cases hff : bndB f with
    | false =>
      have HV : Hid (validB b f = false) := by simp [validB, hbb, hff, Hid]
      rw [hbb] at hb1
      rw [hff] at hf1
      clear hbb hff
      go_enter Try.func15, Try.ntmps15
      go_wp2_with fail
      refine (hb1.out _ (by exact (Below.refl _ _).alloc (Nat.le_refl _) _)).mono ?_
      rintro e w1 ⟨rfl, rfl⟩
      go_wp2_with fail
      refine (hf1.out _ (by exact (Below.refl _ _).alloc (Nat.le_refl _) _)).mono ?_
      rintro e w1 ⟨rfl, rfl⟩
      go_wp2_with fail
      go_ret
      exact ⟨ret_bool HV.out.symm, (Below.refl _ _).alloc (Nat.le_refl _) _⟩
    | true =>
      have hlb := bndB_len hbb
      have hlf := bndB_len hff
      obtain ⟨ad, rfl, had, b25, b24, b20⟩ := hb.three hlb
      obtain ⟨ae, rfl, hae, f25, f24, f20⟩ := hf.three hlf
      have HV : Hid (validB b f = (decide (b.getD 25 0 ≤ 0) && decide (f.getD 25 0 ≤ 0) && decide (0 ≤ b.getD 24 0) && decide (0 ≤ f.getD 24 0) && (f.getD 20 0 == 0))) := by simp [validB, hbb, hff, Hid]
      rw [hbb] at hb1
      rw [hff] at hf1
      clear hbb hff
      obtain ⟨x25, h25⟩ : ∃ x, x = b.getD 25 0 := ⟨_, rfl⟩
      obtain ⟨x24, h24⟩ : ∃ x, x = b.getD 24 0 := ⟨_, rfl⟩
      obtain ⟨y25, k25⟩ : ∃ x, x = f.getD 25 0 := ⟨_, rfl⟩
      obtain ⟨y24, k24⟩ : ∃ x, x = f.getD 24 0 := ⟨_, rfl⟩
      obtain ⟨y20, k20⟩ : ∃ x, x = f.getD 20 0 := ⟨_, rfl⟩
      rw [← h25, ← h24, ← k25, ← k24, ← k20] at HV
      rw [← h25] at b25
      rw [← h24] at b24
      rw [← k25] at f25
      rw [← k24] at f24
      rw [← k20] at f20
      clear h25 h24 k25 k24 k20 b20
      have l1 : 25 < b.length := by omega
      have l2 : 25 < f.length := by omega
      clear hlb hlf
      go_enter Try.func15, Try.ntmps15
      go_wp2_with fail
      refine (hb1.out _ (by exact (Below.refl _ _).alloc (Nat.le_refl _) _)).mono ?_
      rintro e w1 ⟨rfl, rfl⟩
      go_wp2_with fail
      refine (hf1.out _ (by exact (Below.refl _ _).alloc (Nat.le_refl _) _)).mono ?_
      rintro e w1 ⟨rfl, rfl⟩
      go_wp2_with fail
      all_goals
        go_ret
        refine ⟨ret_bool ?_, (Below.refl _ _).alloc (Nat.le_refl _) _⟩
        rw [HV.out]
        by_cases q : y20 = 0 <;> simp [q] <;> omega

def stepB (s : Nat) (x y : Int) : Bool :=
  inB x && inB y && (!(s == 25) || (decide (x ≤ 0) && decide (y ≤ 0))) && (!(s == 24) || (decide (0 ≤ x) && decide (0 ≤ y))) && (!(s == 20) || (y == 0))

theorem valid_steps (b f : List Int) (hb : b.length = 26) (hf : f.length = 26) (h : ∀ s, s < 26 → stepB s (b.getD s 0) (f.getD s 0) = true) : validB b f = true := by
  have h25 := h 25 (by omega)
  have h24 := h 24 (by omega)
  have h20 := h 20 (by omega)
  have hall : ∀ l : List Int, l.length = 26 → (∀ s, s < 26 → inB (l.getD s 0) = true) → bndB l = true := by
    intro l hl hi
    simp only [bndB, hl, decide_true, Bool.true_and, List.all_eq_true]
    intro x hx
    obtain ⟨s, hs, rfl⟩ := List.mem_iff_getElem.1 hx
    have := hi s (by omega)
    simpa [hs] using this
  have H1 := hall b hb (fun s hs => by have := h s hs; simp only [stepB, Bool.and_eq_true] at this; exact this.1.1.1.1)
  have H2 := hall f hf (fun s hs => by have := h s hs; simp only [stepB, Bool.and_eq_true] at this; exact this.1.1.1.2)
  simp [stepB] at h25 h24 h20
  simp [validB, H1, H2]
  omega
theorem valid_not (b f : List Int) (s : Nat) (hs : s < 26) (h : stepB s (b.getD s 0) (f.getD s 0) = false) : validB b f = false := by
  rw [Bool.eq_false_iff]
  intro hv
  rw [← Bool.not_eq_true] at h
  apply h
  simp only [validB, Bool.and_eq_true, bndB, decide_eq_true_eq, List.all_eq_true, beq_iff_eq] at hv
  obtain ⟨⟨⟨⟨⟨⟨⟨hb, hb'⟩, hf, hf'⟩, a⟩, b'⟩, c⟩, d⟩, e⟩ := hv
  have e1 : inB (b.getD s 0) = true := by
    have := hb' (b[s]'(by omega)) (List.getElem_mem _)
    simpa [hb, hs] using this
  have e2 : inB (f.getD s 0) = true := by
    have := hf' (f[s]'(by omega)) (List.getElem_mem _)
    simpa [hf, hs] using this
  simp only [stepB, e1, e2, Bool.true_and]
  by_cases s5 : s = 25
  · subst s5; simp_all
  by_cases s4 : s = 24
  · subst s4; simp_all
  by_cases s0 : s = 20
  · subst s0; simp_all
  simp [s5, s4, s0]
theorem stepB_of {s : Nat} {x y : Int} (h : stepB s x y = true) : -1000 ≤ x ∧ x ≤ 1000 ∧ -1000 ≤ y ∧ y ≤ 1000 ∧ (s = 25 → x ≤ 0 ∧ y ≤ 0) ∧ (s = 24 → 0 ≤ x ∧ 0 ≤ y) ∧ (s = 20 → y = 0) := by
  simp [stepB, inB] at h
  omega
theorem stepB_mk {s : Nat} {x y : Int} (h : -1000 ≤ x ∧ x ≤ 1000 ∧ -1000 ≤ y ∧ y ≤ 1000 ∧ (s = 25 → x ≤ 0 ∧ y ≤ 0) ∧ (s = 24 → 0 ≤ x ∧ 0 ≤ y) ∧ (s = 20 → y = 0)) : stepB s x y = true := by
  simp [stepB, inB]
  omega

set_option maxHeartbeats 3200000 in
theorem refValid_any (A : Option Addr) (c : Nat) (B : Option Addr) (d : Nat) (b f : List Int) (w : World) (hb : SI w w.heap.size .i64 A b) (hf : SI w w.heap.size .i64 B f)
    (hm : b.length ≤ 9223372036854775807) (hm' : f.length ≤ 9223372036854775807) :
    Calls Try.prog 16 #[.agg #[.slice A b.length c, .slice B f.length d]] w fun e w' => e = .returned (.bool (validB b f)) ∧ Up w w' := by
  by_cases hlb : b.length = 26
  · by_cases hlf : f.length = 26
    · have eb : ((b.length : Int) != 26) = false := by simp; omega
      have ef : ((f.length : Int) != 26) = false := by simp; omega
      have HLB := Lib.hid hlb
      have HLF := Lib.hid hlf
      have l1 : 26 ≤ b.length := by omega
      have l2 : 26 ≤ f.length := by omega
      have l3 : b.length ≤ 26 := by omega
      have l4 : f.length ≤ 26 := by omega
      obtain ⟨ad, rfl, had, hcb⟩ := hb (by omega)
      obtain ⟨ae, rfl, hae, hcf⟩ := hf (by omega)
      have HB := Lib.hid hcb
      have HF := Lib.hid hcf
      clear hlb hlf hcb hcf hb hf
      go_enter Try.func16, Try.ntmps16
      go_wp2_with fail
      go_loopw [3] (fun i wr => ∃ k : Nat, k ≤ 26 ∧ i = .int .i64 k ∧ (∀ s, s < k → stepB s (b.getD s 0) (f.getD s 0) = true) ∧ Up w wr ∧ Blk wr w.heap.size 28 #[.slice (some ad) b.length c, .slice (some ae) f.length d]) (fun i _ => 26 - (intOf i).toNat)
      case atStart => exact ⟨0, Nat.zero_le _, rfl, fun _ h => absurd h (by omega), (Below.refl _ _).alloc (Nat.le_refl _) _, Blk.new _ _ _⟩
      case round =>
        obtain ⟨k, hk, rfl, hall, hbel, hB0⟩ := hrel
        have c0 := hB0.cell 0
        have c1 := hB0.cell 1
        simp at c0 c1
        by_cases hlt : k < 26
        · have x0 := (hbel.cell (p := ad.add k) (by rw [block_of_add]; exact had)).trans (HB.out k (by omega))
          have y0 := (hbel.cell (p := ae.add k) (by rw [block_of_add]; exact hae)).trans (HF.out k (by omega))
          rw [show b[k]'(by omega) = b.getD k 0 from by simp [show k < b.length from by omega]] at x0
          rw [show f[k]'(by omega) = f.getD k 0 from by simp [show k < f.length from by omega]] at y0
          have HN := Lib.hid (valid_not b f k hlt)
          have HA := Lib.hid hall
          obtain ⟨x, hx⟩ : ∃ x, x = b.getD k 0 := ⟨_, rfl⟩
          obtain ⟨y, hy⟩ : ∃ y, y = f.getD k 0 := ⟨_, rfl⟩
          rw [← hx, ← hy] at HN
          rw [← hx] at x0
          rw [← hy] at y0
          have HX := Lib.hid hx
          have HY := Lib.hid hy
          clear hx hy hall
          have k0 : (0 : Int) ≤ k := by omega
          have k1 : (k : Int) < b.length := by omega
          have k2 : (k : Int) < f.length := by omega
          go_wp2_with fail
          go_quiet (fail)
          go_wp2_with fail
          all_goals first
            | (go_ret
               refine ⟨ret_bool (HN.out ?_).symm, below_drewN hbel _⟩
               rw [Bool.eq_false_iff]
               intro hst
               have := stepB_of hst
               simp at *
               omega)
            | (go_roundw
               case rel =>
                 refine ⟨k + 1, by omega, by first | go_num | (simp; omega), ?_, below_drewN hbel _, hB0.drewN _⟩
                 intro s hs
                 by_cases e : s = k
                 · subst e
                   rw [← HX.out, ← HY.out]
                   exact stepB_mk (by simp at *; omega)
                 · exact HA.out s (by omega)
               case measure => simp [intOf]; omega)
        · have hk' : k = 26 := by omega
          subst hk'
          have HV := Lib.hid (valid_steps b f HLB.out HLF.out hall)
          clear hall
          go_wp2_with fail
          go_ret
          exact ⟨ret_bool HV.out.symm, hbel⟩
    · have eb : ((b.length : Int) != 26) = false := by simp; omega
      have ef : ((f.length : Int) != 26) = true := by simp; omega
      have HV : Hid (validB b f = false) := by simp [validB, bndB, hlf, Hid]
      clear hlb hlf
      go_enter Try.func16, Try.ntmps16
      go_wp2_with fail
      go_ret
      exact ⟨ret_bool HV.out.symm, (Below.refl _ _).alloc (Nat.le_refl _) _⟩
  · have eb : ((b.length : Int) != 26) = true := by simp; omega
    have HV : Hid (validB b f = false) := by simp [validB, bndB, hlb, Hid]
    clear hlb
    go_enter Try.func16, Try.ntmps16
    go_wp2_with fail
    go_ret
    exact ⟨ret_bool HV.out.symm, (Below.refl _ _).alloc (Nat.le_refl _) _⟩
end Go.Proofs.Ytnaeabkknmoaeaa
