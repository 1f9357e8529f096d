/-
  The contract of keep.Metrics: slices of metrics.
-/
import Derived.Test.YtnaeabkknmoaeaaMList
namespace Go.Proofs.Ytnaeabkknmoaeaa
open Go.RowKit

/-- A metric as it lies in memory: two slice values and what they read as. -/
structure MS where
  A : Option Addr
  b : List Int
  c : Nat
  B : Option Addr
  f : List Int
  d : Nat
def MS.va (m : MS) : Value := .slice m.A m.b.length m.c
def MS.vb (m : MS) : Value := .slice m.B m.f.length m.d
def MS.val (m : MS) : Value := .agg #[.slice m.A m.b.length m.c, .slice m.B m.f.length m.d]
def MS.ok (w : World) (Bd : Nat) (m : MS) : Prop := SI w Bd .i64 m.A m.b ∧ SI w Bd .i64 m.B m.f
def SM (w : World) (Bd : Nat) (A : Option Addr) (ms : List MS) : Prop :=
  0 < ms.length → ∃ ad, A = some ad ∧ ad.block < Bd ∧ ∀ j (h : j < ms.length), w.cell? (ad.add (j * 2)) = some ms[j].va ∧ w.cell? ⟨(ad.add (j * 2)).block, (ad.add (j * 2)).off + 1, none⟩ = some ms[j].vb
theorem SM.below {w w' : World} {Bd : Nat} {A : Option Addr} {ms : List MS} (h : SM w Bd A ms) (hb : Below Bd w w') : SM w' Bd A ms := fun h0 => by
  obtain ⟨ad, e, hl, hc⟩ := h h0
  exact ⟨ad, e, hl, fun j hj => ⟨(hb.cell (by rw [block_of_add]; exact hl)).trans (hc j hj).1, (hb.cell (by simp only [block_of_add]; exact hl)).trans (hc j hj).2⟩⟩
theorem SM.at_ {w : World} {Bd : Nat} {A : Option Addr} {ms : List MS} (h : SM w Bd A ms) {k : Nat} (hk : k < ms.length) :
    ∃ ad, A = some ad ∧ ad.block < Bd ∧ w.cell? (ad.add (k * 2)) = some ms[k].va ∧ w.cell? ⟨(ad.add (k * 2)).block, (ad.add (k * 2)).off + 1, none⟩ = some ms[k].vb := by
  obtain ⟨ad, e, hb, hc⟩ := h (by omega)
  exact ⟨ad, e, hb, hc k hk⟩
def small (m : MS) : Bool := decide (m.b.length ≤ 40) && decide (m.f.length ≤ 40)
def metricsB (ms : List MS) (n : Nat) : Bool := (ms.take (n + 1)).all small && decide (ms.length ≤ n)

theorem all_step' {α : Type} {p : α → Bool} {zs : List α} {k : Nat} (hk : k < zs.length) (h : (zs.take k).all p = true) (hz : p zs[k] = true) : (zs.take (k + 1)).all p = true := by
  rw [List.take_succ_eq_append_getElem hk, List.all_append, h]; simp [hz]
theorem metricsB_bad {ms : List MS} {n k : Nat} (hk : k < ms.length) (hn : k ≤ n) (hz : small ms[k] = false) : metricsB ms n = false := by
  rw [Bool.eq_false_iff]
  intro h
  simp only [metricsB, Bool.and_eq_true, List.all_eq_true] at h
  have := h.1 ms[k] (by rw [List.mem_take_iff_getElem]; exact ⟨k, by omega, rfl⟩)
  rw [hz] at this; cases this

set_option maxHeartbeats 1600000 in
theorem metrics_any (A : Option Addr) (cap : Nat) (ms : List MS) (n : Nat) (Bd : Nat) (w : World) (hr : SM w Bd A ms) (hm : ms.length ≤ 9223372036854775807) (hn : n ≤ 100)
    (hml : ∀ m ∈ ms, m.b.length ≤ 9223372036854775807 ∧ m.f.length ≤ 9223372036854775807) :
    Calls Try.prog 14 #[.slice A ms.length cap, .int .i64 n] w fun e w' => e = .returned (.bool (metricsB ms n)) ∧ w = w' := by
  go_enter Try.func14, Try.ntmps14
  go_wp2_with fail
  go_loop [5] (fun i => ∃ k : Nat, k ≤ ms.length ∧ k ≤ n + 1 ∧ i = .int .i64 k ∧ (ms.take k).all small = true) (fun i => ms.length - (intOf i).toNat)
  case atStart => exact ⟨0, Nat.zero_le _, Nat.zero_le _, rfl, by simp⟩
  case round =>
    obtain ⟨k, hk, hkn, rfl, hall⟩ := hrel
    by_cases hlt : k < ms.length ∧ k ≤ n
    · obtain ⟨ad, rfl, had, h0, h1⟩ := hr.at_ hlt.1
      have hs := all_step' (p := small) hlt.1 hall
      have hbad := metricsB_bad hlt.1 hlt.2
      have hl2 := hml ms[k] (List.getElem_mem _)
      obtain ⟨m, hmd⟩ : ∃ m, m = ms[k]'hlt.1 := ⟨_, rfl⟩
      rw [← hmd] at h0 h1 hs hbad hl2
      obtain ⟨hk1, hk2⟩ := hlt
      obtain ⟨Am, bm, cm, Bm, fm, dm⟩ := m
      simp only [MS.va, MS.vb, small] at h0 h1 hs hbad hl2
      have HS := Lib.hid hs
      have HB := Lib.hid hbad
      clear hmd hs hbad hall hml
      have kk : (k : Int) < ms.length := by omega
      go_wp2_with fail
      all_goals first
        | (go_ret
           refine ⟨ret_bool (HB.out ?_).symm, rfl⟩
           rw [Bool.eq_false_iff]
           simp
           omega)
        | (go_round
           case rel => exact ⟨k + 1, by omega, by omega, by go_num, HS.out (by simp; omega)⟩
           case measure => simp [intOf]; omega)
    · have HA := Lib.hid hall
      clear hall hml
      by_cases hk1 : k < ms.length
      · have hk2 : (n : Int) < k := by omega
        have hr2 : decide ((ms.length : Int) ≤ n) = false := by simp; omega
        have HR : Hid (metricsB ms n = false) := by simp [metricsB, Hid]; omega
        have HD : Hid (decide (ms.length ≤ n) = false) := by simp [Hid]; omega
        have hk3 : decide ((k : Int) ≤ n) = false := by simp; omega
        go_wp2_with fail
        go_ret
        exact ⟨ret_bool (HD.out.trans HR.out.symm), rfl⟩
      · have hk' : k = ms.length := by omega
        have HR : Hid (metricsB ms n = decide (ms.length ≤ n)) := by
          rw [hk', List.take_length] at HA
          rw [metricsB, List.all_eq_true.2 (fun x hx => List.all_eq_true.1 HA.out x (List.mem_of_mem_take hx))]
          simp [Hid]
        subst hk'
        go_wp2_with fail
        go_ret
        exact ⟨ret_bool HR.out.symm, rfl⟩
end Go.Proofs.Ytnaeabkknmoaeaa
