/-
  The contracts of keep.same64 and keep.SameMetric; a parameter that is a slice of metrics.
-/
import Derived.Test.YtnaeabkknmoaeaaMKeep
import Derived.Test.YtnaeabkknmoaeaaFrameKit
import Derived.Deep.SlicePairs
namespace Go.Proofs.Ytnaeabkknmoaeaa
open Go.RowKit

set_option maxHeartbeats 3200000 in
theorem same64_any (A : Option Addr) (cap : Nat) (xa : List Int) (B : Option Addr) (dap : Nat) (xb : List Int) (w : World) (ha : SI w w.heap.size .i64 A xa) (hb : SI w w.heap.size .i64 B xb) (hla : xa.length ≤ 9223372036854775806) (hlb : xb.length ≤ 9223372036854775806) :
    Calls Try.prog 45 #[.slice A xa.length cap, .slice B xb.length dap] w fun e w' => e = .returned (.bool (decide (xa = xb))) ∧ Up w w' := by
  by_cases hlen : xa.length = xb.length
  · have HE := Lib.hid hlen
    have hne : (((xa.length : Nat) : Int) != (xb.length : Nat)) = false := by simp; omega
    have hne2 : (xa.length != xb.length) = false := by simp; omega
    have he2 : xa.length ≤ xb.length := by omega
    clear hlen
    go_enter Try.func45, Try.ntmps45
    go_wp2_with fail
    go_loopw [13] (fun i wr => ∃ k : Nat, k ≤ xa.length ∧ i = .int .i64 k ∧ xa.take k = xb.take k ∧ Up w wr) (fun i _ => xa.length - (intOf i).toNat)
    case atStart => exact ⟨0, Nat.zero_le _, rfl, by simp, Up.refl _⟩
    case round =>
      obtain ⟨k, hk, rfl, heq, hU⟩ := hrel
      by_cases hlt : k < xa.length
      · have hmb : k < xb.length := by omega
        obtain ⟨ad, rfl, had, hca⟩ := (ha.below hU).at_ hlt
        obtain ⟨ae, rfl, hae, hcb⟩ := (hb.below hU).at_ hmb
        have h3 : xa[k] = xb[k] → xa.take (k + 1) = xb.take (k + 1) := fun e => by rw [List.take_succ_eq_append_getElem hlt, List.take_succ_eq_append_getElem hmb, e, heq]
        have h4 : xa[k] ≠ xb[k] → decide (xa = xb) = false := fun e => by
          rw [decide_eq_false_iff_not]
          intro h
          subst h
          exact e rfl
        have H3 := Lib.hid h3
        have H4 := Lib.hid h4
        obtain ⟨p, hp⟩ : ∃ p, p = xa[k] := ⟨_, rfl⟩
        obtain ⟨q, hq⟩ : ∃ q, q = xb[k] := ⟨_, rfl⟩
        rw [← hp] at hca H3 H4
        rw [← hq] at hcb H3 H4
        have ki1 : (0 : Int) ≤ k := by omega
        have ki2 : (k : Int) < xa.length := by omega
        have ki3 : (k : Int) < xb.length := by omega
        clear hp hq h3 h4 heq
        by_cases hpq : p = q
        · subst hpq
          have HC := Lib.hid (H3.out rfl)
          have hd : (p != p) = false := by simp
          clear H4
          go_wp2_with fail
          go_quiet (fail)
          go_wp2_with fail
          go_roundw
          case rel => exact ⟨k + 1, by omega, by go_num, HC.out, below_drewN hU _⟩
          case measure => simp [intOf] <;> omega
        · have HC := Lib.hid (H4.out hpq)
          have hd : (p != q) = true := by simpa using hpq
          clear hpq
          go_wp2_with fail
          go_quiet (fail)
          go_wp2_with fail
          go_ret
          rw [HC.out]
          exact ⟨rfl, below_drewN hU _⟩
      · have hk' : k = xa.length := by omega
        subst hk'
        have hxy : decide (xa = xb) = true := by
          rw [decide_eq_true_iff]
          rw [List.take_length, HE.out, List.take_length] at heq
          exact heq
        have HC := Lib.hid hxy
        clear hxy heq
        go_wp2_with fail
        go_ret
        rw [HC.out]
        exact ⟨rfl, hU⟩
  · have HC : Hid (decide (xa = xb) = false) := by
      refine Lib.hid ?_
      rw [decide_eq_false_iff_not]
      rintro rfl; exact hlen rfl
    obtain ⟨a, haa⟩ : ∃ a, a = xa.length := ⟨_, rfl⟩
    obtain ⟨b, hbb⟩ : ∃ a, a = xb.length := ⟨_, rfl⟩
    rw [← haa] at hla hlen ⊢
    rw [← hbb] at hlb hlen ⊢
    have hne : ((a : Int) != b) = true := by simp; omega
    have hne2 : (a != b) = true := by simp; omega
    clear haa hbb ha hb hlen
    go_enter Try.func45, Try.ntmps45
    go_wp2_with fail
    go_ret
    rw [HC.out]
    exact ⟨rfl, Up.refl _⟩

theorem same_pair {a b c d : List Int} : decide ((a, b) = (c, d)) = (decide (a = c) && decide (b = d)) := by
  rw [Bool.eq_iff_iff]; simp

set_option maxHeartbeats 3200000 in
theorem sameMetric_any (A : Option Addr) (c : Nat) (a : List Int) (B : Option Addr) (d : Nat) (b : List Int) (A' : Option Addr) (c' : Nat) (a' : List Int) (B' : Option Addr) (d' : Nat) (b' : List Int) (w : World)
    (h0 : SI w w.heap.size .i64 A a) (h1 : SI w w.heap.size .i64 B b) (h2 : SI w w.heap.size .i64 A' a') (h3 : SI w w.heap.size .i64 B' b') (l0 : a.length ≤ 1000) (l1 : b.length ≤ 1000) (l2 : a'.length ≤ 1000) (l3 : b'.length ≤ 1000) :
    Calls Try.prog 24 #[.agg #[.slice A a.length c, .slice B b.length d], .agg #[.slice A' a'.length c', .slice B' b'.length d']] w fun e w' => e = .returned (.bool (decide ((a, b) = (a', b')))) ∧ Up w w' := by
  rw [same_pair]
  have C1 := Lib.hid (fun (W : World) (hU : Up w W) => same64_any A c a A' c' a' W (h0.up hU) (h2.up hU) (by omega) (by omega))
  have C2 := Lib.hid (fun (W : World) (hU : Up w W) => same64_any B d b B' d' b' W (h1.up hU) (h3.up hU) (by omega) (by omega))
  obtain ⟨p, hp⟩ : ∃ p, p = decide (a = a') := ⟨_, rfl⟩
  obtain ⟨q, hq⟩ : ∃ q, q = decide (b = b') := ⟨_, rfl⟩
  obtain ⟨n0, hn0⟩ : ∃ n, n = a.length := ⟨_, rfl⟩
  obtain ⟨n1, hn1⟩ : ∃ n, n = b.length := ⟨_, rfl⟩
  obtain ⟨n2, hn2⟩ : ∃ n, n = a'.length := ⟨_, rfl⟩
  obtain ⟨n3, hn3⟩ : ∃ n, n = b'.length := ⟨_, rfl⟩
  rw [← hp, ← hn0, ← hn2] at C1
  rw [← hq, ← hn1, ← hn3] at C2
  rw [← hp, ← hq, ← hn0, ← hn1, ← hn2, ← hn3]
  clear hp hq hn0 hn1 hn2 hn3 h0 h1 h2 h3 l0 l1 l2 l3
  have hx : ∀ W : World, W = (w.alloc (Obj.cells #[Value.slice A n0 c, Value.slice B n1 d] 28)).alloc (Obj.cells #[Value.slice A' n2 c', Value.slice B' n3 d'] 28) → Up w W ∧ Blk W w.heap.size 28 #[Value.slice A n0 c, Value.slice B n1 d] ∧ Blk W (w.heap.size + 1) 28 #[Value.slice A' n2 c', Value.slice B' n3 d'] := by
    rintro W rfl
    exact ⟨((Below.refl _ _).alloc (Nat.le_refl _) _).alloc (by simp) _, (Blk.new w _ _).alloc _, by exact Blk.new' (w.alloc _) 28 _ (by simp)⟩
  have HX := Lib.hid hx
  clear hx
  cases p <;> cases q
  all_goals
    go_enter Try.func24, Try.ntmps24
    go_wp2_with fail
    obtain ⟨w1, hw1⟩ : ∃ w1, w1 = (w.alloc (Obj.cells #[Value.slice A n0 c, Value.slice B n1 d] 28)).alloc (Obj.cells #[Value.slice A' n2 c', Value.slice B' n3 d'] 28) := ⟨_, rfl⟩
    obtain ⟨U1, b1, b2⟩ := HX.out w1 hw1
    rw [← hw1]
    clear hw1 HX
    have s0 : w1.cell? ⟨w.heap.size, 0, none⟩ = some (Value.slice A n0 c) := by have := b1.cell 0; simpa using this
    have s1 : w1.cell? ⟨w.heap.size, 1, none⟩ = some (Value.slice B n1 d) := by have := b1.cell 1; simpa using this
    have s2 : w1.cell? ⟨w.heap.size + 1, 0, none⟩ = some (Value.slice A' n2 c') := by have := b2.cell 0; simpa using this
    have s3 : w1.cell? ⟨w.heap.size + 1, 1, none⟩ = some (Value.slice B' n3 d') := by have := b2.cell 1; simpa using this
    go_wp2_with fail
    refine (C1.out _ U1).mono ?_
    rintro e w2 ⟨rfl, hb2⟩
    have U2 := Up.trans U1 hb2
    have s4 : w2.cell? ⟨w.heap.size, 1, none⟩ = some (Value.slice B n1 d) := by have := (Blk.up b1 hb2).cell 1; simpa using this
    have s5 : w2.cell? ⟨w.heap.size + 1, 1, none⟩ = some (Value.slice B' n3 d') := by have := (Blk.up b2 hb2).cell 1; simpa using this
    go_wp2_with fail
    first
      | (go_ret; exact ⟨rfl, U2⟩)
      | (refine (C2.out _ U2).mono ?_
         rintro e w3 ⟨rfl, hb3⟩
         go_wp2_with fail
         go_ret
         exact ⟨rfl, Up.trans U2 hb3⟩)

section
open Go.ChangeShapes Go.WideShapes Go.ChangeAt Go.Joins Go.Deep
variable {H : Type} {enc : TypeId × Value → H} {base : Nat} {spare : Nat → Bool} {held : Bool} {w : World}
theorem spot_none {w : World} {p : Addr} {v : Value} (h : w.cell? p = some v) : p.spot = none := by
  unfold World.cell? at h
  split at h
  · split at h
    · cases h
    · rename_i hs; cases hp : p.spot <;> simp_all
  · cases h
theorem add_two {a : Addr} (j : Nat) (h : a.spot = none) : a.add (j * 2 + 1) = ⟨(a.add (j * 2)).block, (a.add (j * 2)).off + 1, none⟩ := by
  unfold Addr.add
  by_cases hj : j = 0
  · subst hj; simp
  · rw [if_neg (by omega), if_neg (by omega)]; simp [Nat.add_assoc]
/-- A slice of metrics. -/
theorem metrics_in {fuel : Nat} {c : Value} {x : DataW H × List MemPlace} (h : DataW.trod enc Try.prog w base spare held fuel 30 [c] = some x) :
    ∃ (A : Option Addr) (cap : Nat) (ms : List MS), c = .slice A ms.length cap ∧ SM w w.heap.size A ms ∧ ms.length ≤ cap ∧ cap ≤ 9223372036854775807 ∧ ∀ m ∈ ms, m.ok w w.heap.size ∧ m.b.length ≤ 9223372036854775807 ∧ m.f.length ≤ 9223372036854775807 := by
  rcases open_slice_pairs Try.underlying30 Try.underlying28 (by kernel_rfl) rfl rfl (by kernel_rfl) (by kernel_rfl) h with ⟨hcs, _⟩ | ⟨a, len, cap, m, n, V0, V1, D0, D1, P0, P1, hcs, _, hl, hm, hmm, _, hx⟩
  · injection hcs with hcs _
    subst hcs
    exact ⟨none, 0, [], rfl, fun h => absurd h (by simp), Nat.zero_le _, by simp, by simp⟩
  · injection hcs with hcs _
    subst hcs
    have hlm : len ≤ m := by rw [hmm]; split <;> omega
    have each : ∀ i, ∃ q : MS, i < len → V0 i = q.va ∧ V1 i = q.vb ∧ q.ok w w.heap.size ∧ q.b.length ≤ 9223372036854775807 ∧ q.f.length ≤ 9223372036854775807 := by
      intro i
      by_cases hi : i < len
      · obtain ⟨_, _, t0, t1⟩ := hx i (by omega)
        obtain ⟨A, ca, b, e0, sA, la, ma, _⟩ := ints_in Try.underlying22 Try.underlying2 (by kernel_rfl) t0
        obtain ⟨B, cb, f, e1, sB, lb, mb, _⟩ := ints_in Try.underlying22 Try.underlying2 (by kernel_rfl) t1
        exact ⟨⟨A, b, ca, B, f, cb⟩, fun _ => ⟨e0, e1, ⟨sA, sB⟩, by show b.length ≤ _; omega, by show f.length ≤ _; omega⟩⟩
      · exact ⟨⟨none, [], 0, none, [], 0⟩, fun h => absurd h hi⟩
    obtain ⟨F, hF⟩ := Classical.axiomOfChoice each
    have hlen : ((List.range len).map F).length = len := by simp
    refine ⟨some a, cap, (List.range len).map F, by rw [hlen], fun h0 => ⟨a, rfl, ?_, fun j hj => ?_⟩, by rw [hlen]; exact hl, by simpa [maxLen] using hm, ?_⟩
    · have := lt_of_cell (hx 0 (by rw [hlen] at h0; omega)).1
      rwa [block_of_add] at this
    · rw [hlen] at hj
      obtain ⟨q0, q1, _, _⟩ := hx j (by omega)
      obtain ⟨e0, e1, _⟩ := hF j hj
      have hsp : a.spot = none := by
        have := spot_none (hx 0 (by omega)).1
        rw [Nat.zero_mul] at this
        simpa [Addr.add] using this
      rw [← add_two j hsp]
      simp only [List.getElem_map, List.getElem_range]
      rw [q0, q1, e0, e1]
      exact ⟨rfl, rfl⟩
    · intro m' hm'
      rw [List.mem_map] at hm'
      obtain ⟨i, hi, rfl⟩ := hm'
      rw [List.mem_range] at hi
      exact (hF i hi).2.2
theorem metrics_arg {v : Value} {d : DataW H} {p : List MemPlace} (hv : Value.okWide Try.prog w .any base 30 v) (h : DataW.Trod enc Try.prog w 0 spare held 30 v d p) :
    ∃ (A : Option Addr) (cap : Nat) (ms : List MS), v = .slice A ms.length cap ∧ SM w w.heap.size A ms ∧ ms.length ≤ cap ∧ cap ≤ 9223372036854775807 ∧ ∀ m ∈ ms, m.ok w w.heap.size ∧ m.b.length ≤ 9223372036854775807 ∧ m.f.length ≤ 9223372036854775807 := by
  obtain ⟨a0, len, cap, rfl⟩ := okWide_slice Try.underlying30 hv
  obtain ⟨fuel, hf⟩ := h
  exact metrics_in (by simpa [Value.cells] using hf)
end
end Go.Proofs.Ytnaeabkknmoaeaa
