/-
  A region that draws its order, walked by one schedule: reads and arithmetic are taken first, the calls come up one by one.
-/
import Derived.Deep.RegionHeld3
import Derived.Lib.Hide
namespace Go.Proofs.Ytoedmnalnpmleaa
open Go Go.RowKit

section
variable {P : Program} {ops : Array Oper} {Q : Exit → Act → World → Prop} {md : Region.Mode} {S : World → Prop}

/-- Each marked operation is the only one that may come up; each other may be taken first. -/
def schedOk (md : Region.Mode) (ops : Array Oper) : Array Bool → List (Nat × Bool) → Bool
  | L, [] => (Region.ready md ops L).isEmpty
  | L, (i, true) :: r => decide (Region.ready md ops L = [i]) && schedOk md ops (L.setIfInBounds i true) r
  | L, (i, false) :: r => Region.free md ops L i && (Region.ready md ops L).contains i && schedOk md ops (L.setIfInBounds i true) r

/-- What is to be shown along the schedule. -/
def wpSched (P : Program) (ops : Array Oper) (Q : Exit → Act → World → Prop) (S : World → Prop) : List (Nat × Bool) → Act → World → Prop
  | [], a, w => Q .normal a w
  | (i, true) :: r, a, w => wpOp P ops Q i (fun a' w' => S w' ∧ wpSched P ops Q S r a' w') a w
  | (i, false) :: r, a, w => ∃ o v, ops[i]? = some o ∧ YieldsIf P ops S o v a ∧ wpSched P ops Q S r (a.put o.dst v) w

theorem wpSched_sound (hs : Region.noSelect ops = true) (hQ : ∀ c a w d v, Q (.panic c) (Act.put a d v) w → Q (.panic c) a w) :
    ∀ (sched : List (Nat × Bool)) (L : Array Bool) (a : Act) (w : World), schedOk md ops L sched = true → S w → wpSched P ops Q S sched a w → wpAnyH P md ops Q S sched.length L a w := by
  intro sched
  induction sched with
  | nil =>
    intro L a w hk _ h
    exact wpAnyH_done (by simpa [schedOk] using hk) h _
  | cons x r ih =>
    obtain ⟨i, b⟩ := x
    intro L a w hk hS h
    cases b with
    | true =>
      simp only [schedOk, Bool.and_eq_true, decide_eq_true_eq] at hk
      refine wpAnyH_all hk.1 (by simp) fun j hj => ?_
      obtain rfl : j = i := by simpa using hj
      exact wpOp_mono (fun a' w' hh => ⟨hh.1, ih _ a' w' hk.2 hh.1 hh.2⟩) h
    | false =>
      simp only [schedOk, Bool.and_eq_true] at hk
      obtain ⟨o, v, ho, hy, h⟩ := h
      exact wpAnyH_take ho hs hk.1.1 hk.1.2 (fun c a w hh => hQ c a w _ _ hh) hy hS (ih _ _ w hk.2 hS h)

theorem wp_region_sched {id : Nat} {a : Act} {w : World} (sched : List (Nat × Bool)) (hm : P.follows .mixedOrders = true) (hs : Region.noSelect ops = true) (hl : sched.length = ops.size)
    (hk : schedOk .any ops (Array.replicate ops.size false) sched = true) (hQ : ∀ c a w d v, Q (.panic c) (Act.put a d v) w → Q (.panic c) a w)
    (hS : S w.drew) (h : ∀ O, Hid (O = ops) → wpSched P O Q S sched a w.drew) : (Code.region id ops true).wp P Q a w :=
  wp_region_held hm (by rw [← hl]; exact wpSched_sound hs hQ sched _ a _ (by rw [hl]; exact hk) hS (h ops (Lib.hid rfl)))

theorem wpSched_take {i : Nat} {r : List (Nat × Bool)} {a : Act} {w : World} {o : Oper} {v : Value} (ho : ops[i]? = some o) (hy : YieldsIf P ops S o v a) (h : wpSched P ops Q S r (a.put o.dst v) w) :
    wpSched P ops Q S ((i, false) :: r) a w := ⟨o, v, ho, hy, h⟩
theorem wpSched_call {i : Nat} {r : List (Nat × Bool)} {a : Act} {w : World} {o : Oper} (ho : ops[i]? = some o) (hw : Region.wanted o (yielded ops a.tmps) = true)
    (h : ∀ K' : Act → World → Prop, Shut (∀ a w, S w → (S w → wpSched P ops Q S r a w) → K' a w) → Oper.wp P o a w K' Q) : wpSched P ops Q S ((i, true) :: r) a w := by
  show wpOp P ops Q i _ a w
  refine wpOp_step ho fun K' hK => ?_
  rw [if_pos hw]
  exact h K' fun a w hS hh => hK a w ⟨hS, hh hS⟩
theorem wpSched_skip {i : Nat} {r : List (Nat × Bool)} {a : Act} {w : World} {o : Oper} (ho : ops[i]? = some o) (hw : Region.wanted o (yielded ops a.tmps) = false) (hS : S w)
    (h : wpSched P ops Q S r (a.put o.dst undef) w) : wpSched P ops Q S ((i, true) :: r) a w := by
  show wpOp P ops Q i _ a w
  exact YieldsIf.wpOp (S := S) (v := undef) ho (Or.inr ⟨hw, rfl⟩) hS ⟨hS, h⟩
theorem wpSched_end {a : Act} {w : World} (h : Q .normal a w) : wpSched P ops Q S [] a w := h
end
end Go.Proofs.Ytoedmnalnpmleaa
