/-
  A region walked by a plan that may part where two operations may come up (an allocation that no call waits for).
-/
import Derived.Test.YtkngegcfdabpoaaPA
namespace Go.Proofs.Ytkngegcfdabpoaa
open Go Go.RowKit

inductive Plan where
  | fin : Plan
  | take (i : Nat) (p : Plan)
  | one (i : Nat) (p : Plan)
  | two (i j : Nat) (p q : Plan)

section
variable {P : Program} {ops : Array Oper} {Q : Exit → Act → World → Prop} {md : Region.Mode} {S : World → Prop}

def planOk (md : Region.Mode) (ops : Array Oper) : Nat → Array Bool → Plan → Bool
  | _, L, .fin => (Region.ready md ops L).isEmpty
  | n + 1, L, .one i p => decide (Region.ready md ops L = [i]) && planOk md ops n (L.setIfInBounds i true) p
  | n + 1, L, .two i j p q => decide (Region.ready md ops L = [i, j]) && planOk md ops n (L.setIfInBounds i true) p && planOk md ops n (L.setIfInBounds j true) q
  | n + 1, L, .take i p => Region.free md ops L i && (Region.ready md ops L).contains i && planOk md ops n (L.setIfInBounds i true) p
  | 0, _, .one _ _ => false
  | 0, _, .two _ _ _ _ => false
  | 0, _, .take _ _ => false
def wpPlan (P : Program) (ops : Array Oper) (Q : Exit → Act → World → Prop) (S : World → Prop) : Plan → Act → World → Prop
  | .fin, a, w => Q .normal a w
  | .one i p, a, w => wpOp P ops Q i (fun a' w' => S w' ∧ wpPlan P ops Q S p a' w') a w
  | .two i j p q, a, w => wpOp P ops Q i (fun a' w' => S w' ∧ wpPlan P ops Q S p a' w') a w ∧ wpOp P ops Q j (fun a' w' => S w' ∧ wpPlan P ops Q S q a' w') a w
  | .take i p, a, w => ∃ o v, ops[i]? = some o ∧ YieldsIf P ops S o v a ∧ wpPlan P ops Q S p (a.put o.dst v) w

theorem wpPlan_sound (hs : Region.noSelect ops = true) (hQ : ∀ c a w d v, Q (.panic c) (Act.put a d v) w → Q (.panic c) a w) :
    ∀ (p : Plan) (n : Nat) (L : Array Bool) (a : Act) (w : World), planOk md ops n L p = true → S w → wpPlan P ops Q S p a w → wpAnyH P md ops Q S n L a w := by
  intro p
  induction p with
  | fin =>
    intro n L a w hk _ h
    exact wpAnyH_done (by cases n <;> simpa [planOk] using hk) h _
  | one i p ih =>
    intro n L a w hk hS h
    cases n with
    | zero => simp [planOk] at hk
    | succ n =>
      simp only [planOk, Bool.and_eq_true, decide_eq_true_eq] at hk
      refine wpAnyH_all hk.1 (by simp) fun j hj => ?_
      obtain rfl : j = i := by simpa using hj
      exact wpOp_mono (fun a' w' hh => ⟨hh.1, ih _ _ a' w' hk.2 hh.1 hh.2⟩) h
  | two i j p q ihp ihq =>
    intro n L a w hk hS h
    cases n with
    | zero => simp [planOk] at hk
    | succ n =>
      simp only [planOk, Bool.and_eq_true, decide_eq_true_eq] at hk
      refine wpAnyH_all hk.1.1 (by simp) fun k hj => ?_
      rcases (show k = i ∨ k = j by simpa using hj) with rfl | rfl
      · exact wpOp_mono (fun a' w' hh => ⟨hh.1, ihp _ _ a' w' hk.1.2 hh.1 hh.2⟩) h.1
      · exact wpOp_mono (fun a' w' hh => ⟨hh.1, ihq _ _ a' w' hk.2 hh.1 hh.2⟩) h.2
  | take i p ih =>
    intro n L a w hk hS h
    cases n with
    | zero => simp [planOk] at hk
    | succ n =>
      simp only [planOk, Bool.and_eq_true] at hk
      obtain ⟨o, v, ho, hy, h⟩ := h
      exact wpAnyH_take ho hs hk.1.1 hk.1.2 (fun c a w hh => hQ c a w _ _ hh) hy hS (ih _ _ _ w hk.2 hS h)

theorem wp_region_plan {id : Nat} {a : Act} {w : World} (p : Plan) (hm : P.follows .mixedOrders = true) (hs : Region.noSelect ops = true)
    (hk : planOk .any ops ops.size (Array.replicate ops.size false) p = true) (hQ : ∀ c a w d v, Q (.panic c) (Act.put a d v) w → Q (.panic c) a w)
    (hS : S w.drew) (h : ∀ O, Hid (O = ops) → wpPlan P O Q S p a w.drew) : (Code.region id ops true).wp P Q a w :=
  wp_region_held hm (wpPlan_sound hs hQ p _ _ a _ hk hS (h ops (Lib.hid rfl)))

theorem wpP_take {i : Nat} {p : Plan} {a : Act} {w : World} {o : Oper} {v : Value} (ho : ops[i]? = some o) (hy : YieldsIf P ops S o v a) (h : wpPlan P ops Q S p (a.put o.dst v) w) :
    wpPlan P ops Q S (.take i p) a w := ⟨o, v, ho, hy, h⟩
theorem wpP_step {i : Nat} {p : Plan} {a : Act} {w : World} {o : Oper} (ho : ops[i]? = some o) (hw : Region.wanted o (yielded ops a.tmps) = true)
    (h : ∀ K' : Act → World → Prop, Shut (∀ a w, S w → (S w → wpPlan P ops Q S p a w) → K' a w) → Oper.wp P o a w K' Q) : wpOp P ops Q i (fun a' w' => S w' ∧ wpPlan P ops Q S p a' w') a w := by
  refine wpOp_step ho fun K' hK => ?_
  rw [if_pos hw]
  exact h K' fun a w hS hh => hK a w ⟨hS, hh hS⟩
theorem wpP_one {i : Nat} {p : Plan} {a : Act} {w : World} {o : Oper} (ho : ops[i]? = some o) (hw : Region.wanted o (yielded ops a.tmps) = true)
    (h : ∀ K' : Act → World → Prop, Shut (∀ a w, S w → (S w → wpPlan P ops Q S p a w) → K' a w) → Oper.wp P o a w K' Q) : wpPlan P ops Q S (.one i p) a w := wpP_step ho hw h
theorem wpP_two {i j : Nat} {p q : Plan} {a : Act} {w : World} (h1 : wpPlan P ops Q S (.one i p) a w) (h2 : wpPlan P ops Q S (.one j q) a w) : wpPlan P ops Q S (.two i j p q) a w := ⟨h1, h2⟩
theorem wpP_skip {i : Nat} {p : Plan} {a : Act} {w : World} {o : Oper} (ho : ops[i]? = some o) (hw : Region.wanted o (yielded ops a.tmps) = false) (hS : S w)
    (h : wpPlan P ops Q S p (a.put o.dst undef) w) : wpPlan P ops Q S (.one i p) a w := by
  show wpOp P ops Q i _ a w
  exact YieldsIf.wpOp (S := S) (v := undef) ho (Or.inr ⟨hw, rfl⟩) hS ⟨hS, h⟩
theorem wpP_end {a : Act} {w : World} (h : Q .normal a w) : wpPlan P ops Q S .fin a w := h
end
end Go.Proofs.Ytkngegcfdabpoaa
