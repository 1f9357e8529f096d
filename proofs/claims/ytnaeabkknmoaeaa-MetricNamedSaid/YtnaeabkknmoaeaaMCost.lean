/-
  The contracts of metric.Cost and of the reference's Cost.
-/
import Derived.Test.YtnaeabkknmoaeaaMValid
namespace Go.Proofs.Ytnaeabkknmoaeaa
open Go.RowKit

def costV (b f : List Int) (step n : Int) : Int :=
  if 0 ≤ step ∧ step < 26 ∧ validB b f = true then
    if step = 20 then (if -1000 ≤ n ∧ n ≤ 1000 then b.getD step.toNat 0 * n else 0)
    else if 0 ≤ n ∧ n ≤ 4096 then b.getD step.toNat 0 + n * f.getD step.toNat 0 else 0
  else 0

theorem valid_len {b f : List Int} (h : validB b f = true) : b.length = 26 ∧ f.length = 26 := by
  simp only [validB, Bool.and_eq_true] at h
  exact ⟨bndB_len h.1.1.1.1.1.1, bndB_len h.1.1.1.1.1.2⟩
theorem bnd_get {l : List Int} (h : bndB l = true) (s : Nat) : -1000 ≤ l.getD s 0 ∧ l.getD s 0 ≤ 1000 := by
  simp only [bndB, Bool.and_eq_true, decide_eq_true_eq, List.all_eq_true] at h
  by_cases hs : s < l.length
  · have := inB_of (h.2 l[s] (List.getElem_mem hs))
    simpa [hs] using this
  · simp [List.getElem?_eq_none (by omega : l.length ≤ s)]
theorem valid_get {b f : List Int} (h : validB b f = true) (s : Nat) : (-1000 ≤ b.getD s 0 ∧ b.getD s 0 ≤ 1000) ∧ -1000 ≤ f.getD s 0 ∧ f.getD s 0 ≤ 1000 := by
  simp only [validB, Bool.and_eq_true] at h
  exact ⟨bnd_get h.1.1.1.1.1.1 s, bnd_get h.1.1.1.1.1.2 s⟩
theorem mul_bd {x n M N : Int} (h1 : -M ≤ x) (h2 : x ≤ M) (h3 : -N ≤ n) (h4 : n ≤ N) (hM : 0 ≤ M) (hN : 0 ≤ N) : -(M * N) ≤ x * n ∧ x * n ≤ M * N := by
  have e : (x * n).natAbs ≤ M.natAbs * N.natAbs := by
    rw [Int.natAbs_mul]
    exact Nat.mul_le_mul (by omega) (by omega)
  have e2 : (M.natAbs * N.natAbs : Nat) = (M * N).natAbs := by rw [Int.natAbs_mul]
  have e3 : 0 ≤ M * N := Int.mul_nonneg hM hN
  omega

/-- a slice of 26 numbers: the cell at a place -/
theorem SI.getD_ {w : World} {B : Nat} {A : Option Addr} {l : List Int} (h : SI w B .i64 A l) {s : Nat} (hs : s < l.length) :
    ∃ ad, A = some ad ∧ ad.block < B ∧ w.cell? (ad.add s) = some (.int .i64 (l.getD s 0)) := by
  obtain ⟨ad, e, hb, hc⟩ := h.at_ hs
  exact ⟨ad, e, hb, by rw [hc]; simp [hs]⟩

set_option maxHeartbeats 3200000 in
theorem cost_any (A : Option Addr) (c : Nat) (B : Option Addr) (d : Nat) (b f : List Int) (step n : Int) (w : World) (hb : SI w w.heap.size .i64 A b) (hf : SI w w.heap.size .i64 B f)
    (hm : b.length ≤ 9223372036854775807) (hm' : f.length ≤ 9223372036854775807) :
    Calls Try.prog 18 #[.agg #[.slice A b.length c, .slice B f.length d], .int .i64 step, .int .i64 n] w fun e w' => e = .returned (.int .i64 (costV b f step n)) ∧ Up w w' := by
  by_cases hs : 0 ≤ step ∧ step < 26
  · obtain ⟨s, rfl⟩ : ∃ s : Nat, step = (s : Int) := ⟨step.toNat, by omega⟩
    have hs26 : s < 26 := by omega
    clear hs
    have U0 : Up w (w.alloc (Obj.cells #[Value.slice A b.length c, Value.slice B f.length d] 28)) := (Below.refl _ _).alloc (Nat.le_refl _) _
    have V := valid_any A c B d b f (w.alloc (Obj.cells #[Value.slice A b.length c, Value.slice B f.length d] 28)) (hb.up U0) (hf.up U0) hm hm'
    cases hv : validB b f with
    | false =>
      rw [hv] at V
      have HC : Hid (costV b f s n = 0) := by simp [costV, hv, Hid]
      have HV := Lib.hid V
      clear hv V U0
      go_enter Try.func18, Try.ntmps18
      go_wp2_with fail
      refine HV.out.mono ?_
      rintro e w1 ⟨rfl, hb1⟩
      go_wp2_with fail
      go_ret
      rw [HC.out]
      exact ⟨rfl, below_up ((Below.refl _ _).alloc (Nat.le_refl _) _) hb1 (by simp)⟩
    | true =>
      rw [hv] at V
      have HV := Lib.hid V
      obtain ⟨hlb, hlf⟩ := valid_len hv
      have hg := valid_get hv s
      obtain ⟨ad, rfl, had, hx⟩ := hb.getD_ (s := s) (by omega)
      obtain ⟨ae, rfl, hae, hy⟩ := hf.getD_ (s := s) (by omega)
      have HC0 : costV b f s n = if (s : Int) = 20 then (if -1000 ≤ n ∧ n ≤ 1000 then b.getD s 0 * n else 0) else if 0 ≤ n ∧ n ≤ 4096 then b.getD s 0 + n * f.getD s 0 else 0 := by
        rw [costV, if_pos ⟨by omega, by omega, hv⟩]; simp
      have HC := Lib.hid HC0
      have l1 : 26 ≤ b.length := by omega
      have l2 : 26 ≤ f.length := by omega
      obtain ⟨x, hxd⟩ : ∃ x, x = b.getD s 0 := ⟨_, rfl⟩
      obtain ⟨y, hyd⟩ : ∃ y, y = f.getD s 0 := ⟨_, rfl⟩
      rw [← hxd] at hx hg HC
      rw [← hyd] at hy hg HC
      clear hxd hyd HC0 hv V hlb hlf
      by_cases h20 : s = 20
      · subst h20
        have HC2 : Hid (costV b f (20 : Nat) n = if -1000 ≤ n ∧ n ≤ 1000 then x * n else 0) := by rw [HC.out]; simp [Hid]
        have hmul : -1000 ≤ n → n ≤ 1000 → -1000000 ≤ x * n ∧ x * n ≤ 1000000 := fun h1 h2 => mul_bd hg.1.1 hg.1.2 h1 h2 (by omega) (by omega)
        simp [Addr.add] at hx hy
        have hn3 : n < -1000 ∨ (-1000 ≤ n ∧ n ≤ 1000) ∨ (-1000 ≤ n ∧ decide (n ≤ 1000) = false ∧ 1000 < n) := by simp; omega
        clear HC
        rcases hn3 with hn | hn | hn
        · have HC3 : Hid (costV b f (20 : Nat) n = 0) := by rw [HC2.out, if_neg (by omega)]; exact rfl
          clear HC2 hmul
          go_enter Try.func18, Try.ntmps18
          go_wp2_with fail
          refine HV.out.mono ?_
          rintro e w1 ⟨rfl, hb1⟩
          have U1 := below_up ((Below.refl w.heap.size w).alloc (Nat.le_refl _) _) hb1 (by simp)
          go_wp2
          go_ret
          exact ⟨ret_int HC3.out.symm, U1⟩
        · have hp := hmul hn.1 hn.2
          have HC3 : Hid (costV b f (20 : Nat) n = x * n) := by rw [HC2.out, if_pos hn]; exact rfl
          clear HC2 hmul
          go_enter Try.func18, Try.ntmps18
          go_wp2_with fail
          refine HV.out.mono ?_
          rintro e w1 ⟨rfl, hb1⟩
          have U1 := below_up ((Below.refl w.heap.size w).alloc (Nat.le_refl _) _) hb1 (by simp)
          have x1 := (hb1.cell (p := ⟨ad.block, ad.off + 20, none⟩) (by simp; omega)).trans ((World.cell?_alloc_lt _ _ _ (by exact had)).trans hx)
          have e0 := (Blk.new w 28 _).up hb1
          have e1 := e0.cell 0
          have e2 := e0.cell 1
          simp at e1 e2
          go_wp2
          go_ret
          exact ⟨ret_int HC3.out.symm, U1⟩
        · have HC3 : Hid (costV b f (20 : Nat) n = 0) := by rw [HC2.out, if_neg (by omega)]; exact rfl
          obtain ⟨hn1, hn2, hn3⟩ := hn
          clear HC2 hmul
          go_enter Try.func18, Try.ntmps18
          go_wp2_with fail
          refine HV.out.mono ?_
          rintro e w1 ⟨rfl, hb1⟩
          have U1 := below_up ((Below.refl w.heap.size w).alloc (Nat.le_refl _) _) hb1 (by simp)
          go_wp2
          go_ret
          exact ⟨ret_int HC3.out.symm, U1⟩
      · have HC2 : Hid (costV b f s n = if 0 ≤ n ∧ n ≤ 4096 then x + n * y else 0) := by rw [HC.out, if_neg (by omega)]; exact rfl
        clear HC
        have h20' : ((s : Int) == 20) = false := by simp; omega
        have hn3 : n < 0 ∨ (0 ≤ n ∧ n ≤ 4096 ∧ decide (4096 < n) = false) ∨ (0 ≤ n ∧ 4096 < n) := by simp; omega
        rcases hn3 with hn | hn | hn
        · have HC3 : Hid (costV b f s n = 0) := by rw [HC2.out, if_neg (by omega)]; exact rfl
          clear HC2
          go_enter Try.func18, Try.ntmps18
          go_wp2_with fail
          refine HV.out.mono ?_
          rintro e w1 ⟨rfl, hb1⟩
          have U1 := below_up ((Below.refl w.heap.size w).alloc (Nat.le_refl _) _) hb1 (by simp)
          go_wp2
          go_ret
          exact ⟨ret_int HC3.out.symm, U1⟩
        · have hp : -4096000 ≤ n * y ∧ n * y ≤ 4096000 := mul_bd (M := 4096) (N := 1000) (by omega) (by omega) hg.2.1 hg.2.2 (by omega) (by omega)
          have HC3 : Hid (costV b f s n = x + n * y) := by rw [HC2.out, if_pos (by omega)]; exact rfl
          obtain ⟨hn1, hn2, hn3⟩ := hn
          clear HC2
          go_enter Try.func18, Try.ntmps18
          go_wp2_with fail
          refine HV.out.mono ?_
          rintro e w1 ⟨rfl, hb1⟩
          have U1 := below_up ((Below.refl w.heap.size w).alloc (Nat.le_refl _) _) hb1 (by simp)
          have x1 := (hb1.cell (p := ad.add s) (by rw [block_of_add]; simp; omega)).trans ((World.cell?_alloc_lt _ _ _ (by rw [block_of_add]; exact had)).trans hx)
          have y1 := (hb1.cell (p := ae.add s) (by rw [block_of_add]; simp; omega)).trans ((World.cell?_alloc_lt _ _ _ (by rw [block_of_add]; exact hae)).trans hy)
          have e0 := (Blk.new w 28 _).up hb1
          have e1 := e0.cell 0
          have e2 := e0.cell 1
          simp at e1 e2
          have k1 : (s : Int) < b.length := by omega
          have k2 : (s : Int) < f.length := by omega
          go_wp2_with fail
          go_quiet (fail)
          go_wp2
          go_ret
          exact ⟨ret_int HC3.out.symm, below_drewN U1 _⟩
        · have HC3 : Hid (costV b f s n = 0) := by rw [HC2.out, if_neg (by omega)]; exact rfl
          clear HC2
          go_enter Try.func18, Try.ntmps18
          go_wp2_with fail
          refine HV.out.mono ?_
          rintro e w1 ⟨rfl, hb1⟩
          have U1 := below_up ((Below.refl w.heap.size w).alloc (Nat.le_refl _) _) hb1 (by simp)
          go_wp2
          go_ret
          exact ⟨ret_int HC3.out.symm, U1⟩
  · have HC : Hid (costV b f step n = 0) := by rw [Hid, costV, if_neg (by omega)]
    have hs' : step < 0 ∨ (0 ≤ step ∧ 26 ≤ step) := by omega
    clear hs
    rcases hs' with hs | hs
    all_goals
      go_enter Try.func18, Try.ntmps18
      go_wp2_with fail
      go_ret
      rw [HC.out]
      exact ⟨rfl, (Below.refl _ _).alloc (Nat.le_refl _) _⟩
end Go.Proofs.Ytnaeabkknmoaeaa
