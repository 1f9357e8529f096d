/-
  PF: Sched2, FOps.
-/
import Derived.Test.YtefiapjfiojaoaaDoorPA
import Derived.Test.YtefiapjfiojaoaaDoorPE
import Derived.Test.YtefiapjfiojaoaaDoorPD
/-
  A region whose last operations write the very cells that its loads have read: the condition on the world holds till the first of those comes up.
-/
namespace Go.Proofs.YtefiapjfiojaoaaDoor
open Go Go.RowKit

section
variable {P : Program} {ops : Array Oper} {Q : Exit → Act → World → Prop} {md : Region.Mode} {S : World → Prop} {l : Nat}

/-- S, till number l has come up. -/
def Till (l : Nat) (S : World → Prop) (L : Array Bool) (w : World) : Prop := L.getD l false = true ∨ S w

/-- Every order from here on, with S shown till l. -/
def wpTill (P : Program) (md : Region.Mode) (ops : Array Oper) (Q : Exit → Act → World → Prop) (l : Nat) (S : World → Prop) : Nat → Array Bool → Act → World → Prop
  | 0, L, a, w => Region.ready md ops L = [] ∧ Q .normal a w
  | n + 1, L, a, w => (Region.ready md ops L = [] → Q .normal a w) ∧
      ∀ i ∈ Region.ready md ops L, wpOp P ops Q i (fun b u => Till l S (L.setIfInBounds i true) u ∧ wpTill P md ops Q l S n (L.setIfInBounds i true) b u) a w

theorem wpAny_of_till : ∀ (n : Nat) (L : Array Bool) (a : Act) (w : World), wpTill P md ops Q l S n L a w → wpAny P md ops Q n L a w := by
  intro n
  induction n with
  | zero => intro L a w h; exact h
  | succ n ih => intro L a w h; exact ⟨h.1, fun i hi => wpOp_mono (fun b u hb => ih _ b u hb.2) (h.2 i hi)⟩

/-- l waits for i. -/
def waits (md : Region.Mode) (ops : Array Oper) (l i : Nat) : Bool := match ops[l]? with
  | some o => o.after.any fun e => Region.binds md e && e.on == i
  | none => false

theorem waits_not {L : Array Bool} {i j : Nat} (hw : waits md ops l i = true) (hi : i ∈ Region.ready md ops L) (hj : j ∈ Region.ready md ops L) : j ≠ l := by
  rintro rfl
  obtain ⟨h0, _⟩ := mem_ready.1 hi
  obtain ⟨_, o, ho, hall⟩ := mem_ready.1 hj
  simp only [waits, ho, Array.any_eq_true'] at hw
  obtain ⟨e, he, hb⟩ := hw
  simp only [Bool.and_eq_true, beq_iff_eq] at hb
  have h1 := hall e he hb.1
  rw [hb.2] at h1
  rcases Nat.lt_or_ge i L.size with hlt | hge
  · simp [hlt] at h0 h1
    rw [h0] at h1; cases h1
  · simp [Array.getElem?_eq_none hge] at h0

theorem wpTill_first {i : Nat} {oi : Oper} {v : Value} (hi : ops[i]? = some oi) (hsel : ∀ (j : Nat) (o : Oper) cs b, ops[j]? = some o → o.op ≠ .select cs b) (hQ : ∀ c a w, Q (.panic c) (a.put oi.dst v) w → Q (.panic c) a w)
    (hil : i ≠ l) (hw : waits md ops l i = true) :
    ∀ (n : Nat) (L : Array Bool) (a : Act) (w : World), (∀ j oj, ops[j]? = some oj → j ≠ i → L.getD j true = false → (∀ e ∈ oj.after, Region.binds md e = true → e.on ≠ i) → oi.apart ops oj = true) →
      i ∈ Region.ready md ops L → L.getD l false = false → YieldsIf P ops S oi v a → S w →
      wpTill P md ops Q l S n (L.setIfInBounds i true) (a.put oi.dst v) w → wpTill P md ops Q l S (n + 1) L a w := by
  intro n
  induction n with
  | zero =>
    intro L a w _ hr hlu hy hS H
    refine ⟨fun h => (by rw [h] at hr; cases hr), fun j hj => ?_⟩
    by_cases hji : j = i
    · subst hji; exact hy.wpOp hi hS ⟨.inr hS, H⟩
    · have hk := ready_mono hj hji
      rw [H.1] at hk; cases hk
  | succ n ih =>
    intro L a w hfree hr hlu hy hS H
    refine ⟨fun h => (by rw [h] at hr; cases hr), fun j hj => ?_⟩
    by_cases hji : j = i
    · subst hji; exact hy.wpOp hi hS ⟨.inr hS, H⟩
    have hjl := waits_not hw hr hj
    obtain ⟨hjun, oj, hoj, hall⟩ := mem_ready.1 hj
    have hno : ∀ e ∈ oj.after, Region.binds md e = true → e.on ≠ i := fun e he hb heq => by
      have h1 := hall e he hb
      have h0 := (mem_ready.1 hr).1
      rw [heq] at h1
      rcases Nat.lt_or_ge i L.size with h' | h'
      · simp [h'] at h0 h1; rw [h0] at h1; cases h1
      · simp [Array.getElem?_eq_none h'] at h1
    have h2 := wpOp_putIf hoj (hfree j oj hoj hji hjun hno) (fun cs b => hsel i oi cs b hi) (fun cs b => hsel j oj cs b hoj) hQ hy (H.2 j (ready_mono hj hji))
    refine wpOp_mono (fun b u h3 => ?_) h2
    have hlu2 : (L.setIfInBounds j true).getD l false = false := by rw [Go.getD_set_ne false hjl]; exact hlu
    have hSu : S u := by
      rcases h3.2.1 with h | h
      · rw [Go.getD_set_ne false hjl, Go.getD_set_ne false hil, hlu] at h; cases h
      · exact h
    refine ⟨.inr hSu, ih (L.setIfInBounds j true) b u (fun k ok hk hki hun hn2 => ?_) (ready_mono hr (Ne.symm hji)) hlu2 h3.1 hSu ?_⟩
    · refine hfree k ok hk hki ?_ hn2
      by_cases hjk : j = k
      · subst hjk; exact hjun
      · rw [Go.getD_set_ne true hjk] at hun; exact hun
    · rw [Array.setIfInBounds_comm _ _ hji]
      exact h3.2.2

theorem wpTill_free {i : Nat} {oi : Oper} {v : Value} (hi : ops[i]? = some oi) (hsel : ∀ (j : Nat) (o : Oper) cs b, ops[j]? = some o → o.op ≠ .select cs b) (hQ : ∀ c a w, Q (.panic c) (a.put oi.dst v) w → Q (.panic c) a w) (hil : i ≠ l) :
    ∀ (n : Nat) (L : Array Bool) (a : Act) (w : World), (∀ j oj, ops[j]? = some oj → j ≠ i → L.getD j true = false → (∀ e ∈ oj.after, Region.binds md e = true → e.on ≠ i) → oi.apart ops oj = true) →
      i ∈ Region.ready md ops L → YieldsIf P ops (fun _ => True) oi v a → Till l S L w →
      wpTill P md ops Q l S n (L.setIfInBounds i true) (a.put oi.dst v) w → wpTill P md ops Q l S (n + 1) L a w := by
  intro n
  induction n with
  | zero =>
    intro L a w _ hr hy hT H
    refine ⟨fun h => (by rw [h] at hr; cases hr), fun j hj => ?_⟩
    by_cases hji : j = i
    · subst hji; exact hy.wpOp hi trivial ⟨hT.imp Go.getD_set_true id, H⟩
    · have hk := ready_mono hj hji
      rw [H.1] at hk; cases hk
  | succ n ih =>
    intro L a w hfree hr hy hT H
    refine ⟨fun h => (by rw [h] at hr; cases hr), fun j hj => ?_⟩
    by_cases hji : j = i
    · subst hji; exact hy.wpOp hi trivial ⟨hT.imp Go.getD_set_true id, H⟩
    obtain ⟨hjun, oj, hoj, hall⟩ := mem_ready.1 hj
    have hno : ∀ e ∈ oj.after, Region.binds md e = true → e.on ≠ i := fun e he hb heq => by
      have h1 := hall e he hb
      have h0 := (mem_ready.1 hr).1
      rw [heq] at h1
      rcases Nat.lt_or_ge i L.size with h' | h'
      · simp [h'] at h0 h1; rw [h0] at h1; cases h1
      · simp [Array.getElem?_eq_none h'] at h1
    have h2 := wpOp_putIf hoj (hfree j oj hoj hji hjun hno) (fun cs b => hsel i oi cs b hi) (fun cs b => hsel j oj cs b hoj) hQ hy (H.2 j (ready_mono hj hji))
    refine wpOp_mono (fun b u h3 => ?_) h2
    have hTu : Till l S (L.setIfInBounds j true) u := by
      refine h3.2.1.imp (fun h => ?_) id
      rw [Array.setIfInBounds_comm _ _ (Ne.symm hji), Go.getD_set_ne false hil] at h
      exact h
    refine ⟨hTu, ih (L.setIfInBounds j true) b u (fun k ok hk hki hun hn2 => ?_) (ready_mono hr (Ne.symm hji)) h3.1 hTu ?_⟩
    · refine hfree k ok hk hki ?_ hn2
      by_cases hjk : j = k
      · subst hjk; exact hjun
      · rw [Go.getD_set_ne true hjk] at hun; exact hun
    · rw [Array.setIfInBounds_comm _ _ hji]
      exact h3.2.2

/-- The schedule's two halves: till l (marked operations are the only ones that may come up, others may be taken first), and from l on (each the only one). -/
def tailOk (md : Region.Mode) (ops : Array Oper) (l : Nat) : Array Bool → List Nat → Bool
  | L, i :: t => decide (Region.ready md ops L = [i]) && ((L.setIfInBounds i true).getD l false) && tailOk md ops l (L.setIfInBounds i true) t
  | L, [] => (Region.ready md ops L).isEmpty
def tillOk (md : Region.Mode) (ops : Array Oper) (l : Nat) (t : List Nat) : Array Bool → List (Nat × Nat) → Bool
  | L, (i, 1) :: r => decide (Region.ready md ops L = [i]) && tillOk md ops l t (L.setIfInBounds i true) r
  | L, (i, 0) :: r => Region.free md ops L i && (Region.ready md ops L).contains i && decide (i ≠ l) && !(L.getD l false) && waits md ops l i && tillOk md ops l t (L.setIfInBounds i true) r
  | L, (i, _ + 2) :: r => Region.free md ops L i && (Region.ready md ops L).contains i && decide (i ≠ l) && tillOk md ops l t (L.setIfInBounds i true) r
  | L, [] => tailOk md ops l L t

def wpTail (P : Program) (ops : Array Oper) (Q : Exit → Act → World → Prop) : List Nat → Act → World → Prop
  | [], a, w => Q .normal a w
  | i :: t, a, w => wpOp P ops Q i (fun b u => wpTail P ops Q t b u) a w
def wpSchedT (P : Program) (ops : Array Oper) (Q : Exit → Act → World → Prop) (S : World → Prop) (T : Act → World → Prop) : List (Nat × Nat) → Act → World → Prop
  | [], a, w => T a w
  | (i, 1) :: r, a, w => wpOp P ops Q i (fun b u => S u ∧ wpSchedT P ops Q S T r b u) a w
  | (i, 0) :: r, a, w => ∃ o v, ops[i]? = some o ∧ YieldsIf P ops S o v a ∧ wpSchedT P ops Q S T r (a.put o.dst v) w
  | (i, _ + 2) :: r, a, w => ∃ o v, ops[i]? = some o ∧ YieldsIf P ops (fun _ => True) o v a ∧ wpSchedT P ops Q S T r (a.put o.dst v) w

theorem wpTill_done {L : Array Bool} {a : Act} {w : World} (hr : Region.ready md ops L = []) (h : Q .normal a w) : ∀ n, wpTill P md ops Q l S n L a w
  | 0 => ⟨hr, h⟩
  | _ + 1 => ⟨fun _ => h, by rw [hr]; simp⟩
theorem tail_sound : ∀ (t : List Nat) (L : Array Bool) (a : Act) (w : World), tailOk md ops l L t = true → wpTail P ops Q t a w → wpTill P md ops Q l S t.length L a w := by
  intro t
  induction t with
  | nil => intro L a w hk h; exact wpTill_done (by simpa [tailOk] using hk) h _
  | cons i t ih =>
    intro L a w hk h
    simp only [tailOk, Bool.and_eq_true, decide_eq_true_eq] at hk
    refine ⟨fun h0 => (by rw [hk.1.1] at h0; cases h0), fun j hj => ?_⟩
    rw [hk.1.1] at hj
    obtain rfl : j = i := by simpa using hj
    exact wpOp_mono (fun b u hh => ⟨.inl hk.1.2, ih _ b u hk.2 hh⟩) h
theorem schedT_sound (hs : Region.noSelect ops = true) (hQ : ∀ c a w d v, Q (.panic c) (Act.put a d v) w → Q (.panic c) a w) (t : List Nat) :
    ∀ (r : List (Nat × Nat)) (L : Array Bool) (a : Act) (w : World), tillOk md ops l t L r = true → S w → wpSchedT P ops Q S (wpTail P ops Q t) r a w → wpTill P md ops Q l S (r.length + t.length) L a w := by
  intro r
  induction r with
  | nil => intro L a w hk _ h; rw [List.length_nil, Nat.zero_add]; exact tail_sound t L a w hk h
  | cons x r ih =>
    obtain ⟨i, b⟩ := x
    intro L a w hk hS h
    rw [List.length_cons, Nat.add_right_comm]
    match b with
    | 1 =>
      simp only [tillOk, Bool.and_eq_true, decide_eq_true_eq] at hk
      refine ⟨fun h0 => (by rw [hk.1] at h0; cases h0), fun j hj => ?_⟩
      rw [hk.1] at hj
      obtain rfl : j = i := by simpa using hj
      exact wpOp_mono (fun b u hh => ⟨.inr hh.1, ih _ b u hk.2 hh.1 hh.2⟩) h
    | 0 =>
      simp only [tillOk, Bool.and_eq_true, decide_eq_true_eq, Bool.not_eq_true'] at hk
      obtain ⟨o, v, ho, hy, h⟩ := h
      exact wpTill_first ho (Region.noSelect_spec hs) (fun c a w hh => hQ c a w _ _ hh) hk.1.1.1.2 hk.1.2 _ L a w (Region.free_spec ho hk.1.1.1.1.1) (by simpa using hk.1.1.1.1.2) hk.1.1.2 hy hS (ih _ _ w hk.2 hS h)
    | _ + 2 =>
      simp only [tillOk, Bool.and_eq_true, decide_eq_true_eq] at hk
      obtain ⟨o, v, ho, hy, h⟩ := h
      exact wpTill_free ho (Region.noSelect_spec hs) (fun c a w hh => hQ c a w _ _ hh) hk.1.2 _ L a w (Region.free_spec ho hk.1.1.1) (by simpa using hk.1.1.2) hy (.inr hS) (ih _ _ w hk.2 hS h)

theorem wp_region_till {id : Nat} {a : Act} {w : World} (l : Nat) (r : List (Nat × Nat)) (t : List Nat) (hm : P.follows .mixedOrders = true) (hs : Region.noSelect ops = true) (hl : r.length + t.length = ops.size)
    (hk : tillOk .any ops l t (Array.replicate ops.size false) r = true) (hQ : ∀ c a w d v, Q (.panic c) (Act.put a d v) w → Q (.panic c) a w)
    (hS : S w.drew) (h : ∀ O, Hid (O = ops) → wpSchedT P O Q S (wpTail P O Q t) r a w.drew) : (Code.region id ops true).wp P Q a w :=
  wp_region_any hm (wpAny_of_till (l := l) (S := S) _ _ a _ (by rw [← hl]; exact schedT_sound hs hQ t r _ a _ (by rw [hl]; exact hk) hS (h ops (Lib.hid rfl))))

theorem wpT_take {i : Nat} {r : List (Nat × Nat)} {a : Act} {w : World} {o : Oper} {v : Value} {T : Act → World → Prop} (ho : ops[i]? = some o) (hy : YieldsIf P ops S o v a) (h : wpSchedT P ops Q S T r (a.put o.dst v) w) :
    wpSchedT P ops Q S T ((i, 0) :: r) a w := ⟨o, v, ho, hy, h⟩
theorem wpT_free {i : Nat} {r : List (Nat × Nat)} {a : Act} {w : World} {o : Oper} {v : Value} {T : Act → World → Prop} (ho : ops[i]? = some o) (hy : YieldsIf P ops (fun _ => True) o v a) (h : wpSchedT P ops Q S T r (a.put o.dst v) w) :
    wpSchedT P ops Q S T ((i, 2) :: r) a w := ⟨o, v, ho, hy, h⟩
theorem wpT_call {i : Nat} {r : List (Nat × Nat)} {a : Act} {w : World} {o : Oper} {T : Act → World → Prop} (ho : ops[i]? = some o) (hw : Region.wanted o (yielded ops a.tmps) = true)
    (h : ∀ K' : Act → World → Prop, Shut (∀ a w, S w → (S w → wpSchedT P ops Q S T r a w) → K' a w) → Oper.wp P o a w K' Q) : wpSchedT P ops Q S T ((i, 1) :: r) a w := by
  show wpOp P ops Q i _ a w
  refine wpOp_step ho fun K' hK => ?_
  rw [if_pos hw]
  exact h K' fun a w hS hh => hK a w ⟨hS, hh hS⟩
theorem wpT_skip {i : Nat} {r : List (Nat × Nat)} {a : Act} {w : World} {o : Oper} {T : Act → World → Prop} (ho : ops[i]? = some o) (hw : Region.wanted o (yielded ops a.tmps) = false) (hS : S w)
    (h : wpSchedT P ops Q S T r (a.put o.dst undef) w) : wpSchedT P ops Q S T ((i, 1) :: r) a w := by
  show wpOp P ops Q i _ a w
  exact YieldsIf.wpOp (S := S) (v := undef) ho (Or.inr ⟨hw, rfl⟩) hS ⟨hS, h⟩
theorem wpT_tail {i : Nat} {t : List Nat} {a : Act} {w : World} {o : Oper} (ho : ops[i]? = some o) (hw : Region.wanted o (yielded ops a.tmps) = true)
    (h : ∀ K' : Act → World → Prop, Shut (∀ a w, wpTail P ops Q t a w → K' a w) → Oper.wp P o a w K' Q) : wpSchedT P ops Q S (wpTail P ops Q (i :: t)) [] a w := by
  show wpOp P ops Q i _ a w
  refine wpOp_step ho fun K' hK => ?_
  rw [if_pos hw]
  exact h K' fun a w hh => hK a w hh
theorem wpT_tail' {i : Nat} {t : List Nat} {a : Act} {w : World} {o : Oper} (ho : ops[i]? = some o) (hw : Region.wanted o (yielded ops a.tmps) = true)
    (h : ∀ K' : Act → World → Prop, Shut (∀ a w, wpTail P ops Q t a w → K' a w) → Oper.wp P o a w K' Q) : wpTail P ops Q (i :: t) a w := by
  show wpOp P ops Q i _ a w
  refine wpOp_step ho fun K' hK => ?_
  rw [if_pos hw]
  exact h K' fun a w hh => hK a w hh
theorem wpT_end {a : Act} {w : World} (h : Q .normal a w) : wpTail P ops Q [] a w := h
end
end Go.Proofs.YtefiapjfiojaoaaDoor

/-
  The document's answer, by values: Canonical, Neg, Abs, FromInt, Sign, Integral.
-/
namespace Go.Proofs.YtefiapjfiojaoaaDoor
open Go.RowKit

section
variable {w : World} {s : Bool} {A A' : Option Addr} {n c n' c' : Nat} {q : Rat} {B : Nat}
theorem build_iv (h : IV w (.agg #[.bool s, .slice A n c, .slice A' n' c']) q B) (hB : B ≤ 8589934590) (t : Bool) :
    ∃ x y : Nat, q = fq s x y ∧ Calls Tryd.prog 36 #[.bool t, .slice A n c, .slice A' n' c'] w (RetQ w (fq t x y)) := by
  obtain ⟨s', xs, ys, ⟨C, ca, C', cb, e, h1, h2, h3, h4, h5⟩, k1, k2, k3⟩ := h
  injection e with e
  simp at e
  obtain ⟨rfl, ⟨rfl, rfl, rfl⟩, rfl, rfl, rfl⟩ := e
  exact ⟨nv xs, nv ys, k3, build_any t A c xs A' c' ys w h1 h2 h3 h4 (by omega) (by omega)⟩
theorem build_same (h : IV w (.agg #[.bool s, .slice A n c, .slice A' n' c']) q B) (hB : B ≤ 8589934590) : Calls Tryd.prog 36 #[.bool s, .slice A n c, .slice A' n' c'] w (RetQ w q) := by
  obtain ⟨x, y, h1, h2⟩ := build_iv h hB s
  rw [h1]; exact h2
theorem build_flip (h : IV w (.agg #[.bool s, .slice A n c, .slice A' n' c']) q B) (hB : B ≤ 8589934590) : Calls Tryd.prog 36 #[.bool (!s), .slice A n c, .slice A' n' c'] w (RetQ w (-q)) := by
  obtain ⟨x, y, h1, h2⟩ := build_iv h hB (!s)
  rw [h1, fq_neg]; exact h2
theorem build_abs (h : IV w (.agg #[.bool s, .slice A n c, .slice A' n' c']) q B) (hB : B ≤ 8589934590) : Calls Tryd.prog 36 #[.bool false, .slice A n c, .slice A' n' c'] w (RetQ w q.abs) := by
  obtain ⟨x, y, h1, h2⟩ := build_iv h hB false
  rw [h1, ← fq_abs s]; exact h2
/-- build over natural numbers. -/
theorem build_n {x y : Nat} (ha : NS w A x) (hb : NS w A' y) (h1 : ln x ≤ 8589934592) (h2 : ln y ≤ 8589934592) (t : Bool) :
    Calls Tryd.prog 36 #[.bool t, .slice A (ln x) c, .slice A' (ln y) c'] w (RetQ w (fq t x y)) := by
  have := build_any t A c (digs x) A' c' (digs y) w ha hb (lt32_digs x) (lt32_digs y) h1 h2
  rwa [nv_digs, nv_digs] at this
end

set_option maxRecDepth 100000 in
set_option maxHeartbeats 1600000 in
theorem rCanonical_q {v : Value} {q : Rat} {B : Nat} {w : World} (h : IV w v q B) (hB : B ≤ 8589934590) : Calls Tryd.prog 18 #[v] w (RetQ w q) := by
  obtain ⟨s, A, n, c, A', n', c', rfl⟩ := h.shape
  have H := Lib.hid (fun wx (u : Up w wx) => build_same (h.up u) hB)
  clear h
  go_enter Tryd.func18, Tryd.ntmps18
  go_wp2_with fail
  obtain ⟨w1, hw1⟩ : ∃ w1, w1 = (w.alloc (Obj.cells #[.bool s, .slice A n c, .slice A' n' c'] 24)).alloc (Obj.cells #[.bool false, .slice none 0 0, .slice none 0 0] 24) := ⟨_, rfl⟩
  have U1 : Up w w1 := by rw [hw1]; exact ((Below.refl _ _).alloc (Nat.le_refl _) _).alloc (by simp) _
  have r1 : Blk w1 (w.heap.size + 1) 24 #[.bool false, .slice none 0 0, .slice none 0 0] := by rw [hw1]; exact Blk.new' _ _ _ (by simp)
  rw [← hw1]
  clear hw1
  refine (H.out w1 U1).mono ?_
  rintro e w3 ⟨v3, rfl, hQ, hU3⟩
  obtain ⟨s3, A3, n3, c3, A3', n3', c3', rfl⟩ := hQ.shape
  have HQ := Lib.hid hQ
  have U3 := U1.trans hU3
  have r3 := r1.up hU3
  obtain ⟨d0, d1, d2⟩ := tri r3
  have f0 := r3.frozen 0
  have f1 := r3.frozen 1
  have f2 := r3.frozen 2
  have z3 := r3.lt
  clear hQ
  go_wp2_with fail
  obtain ⟨c0, c1, c2'⟩ := tri (tri_set r3 (.bool s3) (.slice A3 n3 c3) (.slice A3' n3' c3'))
  refine bodyPost_ret (v := .agg #[.bool s3, .slice A3 n3 c3, .slice A3' n3' c3']) ?_ rfl (ret_q r3 HQ.out U3 (by omega))
  simp [results, Tryd.results18, go_sem, c0, c1, c2']

theorem NS.lit1 {w : World} {h : Nat} (hb : Blk w h 25 #[.int .u32 1]) : NS w (some ⟨h, 0, none⟩) 1 := by
  have hd : zs (digs 1) = [1] := by rw [digs_small (by omega) (by omega)]; rfl
  unfold NS
  rw [hd]
  exact SI.blk _ (t := 25) hb hb.lt
theorem fq_natz (s : Bool) (n : Nat) {z : Int} (h : z = if s then -(n : Int) else n) : fq s n 1 = (z : Rat) := by
  cases s
  · rw [h, fq_nat]; exact (Rat.intCast_natCast n).symm
  · have e := fq_neg false n 1
    rw [fq_nat] at e
    rw [show true = !false from rfl, ← e, h, if_pos rfl, Rat.intCast_neg, Rat.intCast_natCast]

theorem sgn_num (q : Rat) : sgn q = if q.num.natAbs = 0 then 0 else if decide (q.num < 0) = true then -1 else 1 := by
  have := sgn_fq (decide (q.num < 0)) q.num.natAbs q.den q.den_nz
  rwa [fq_self] at this
set_option maxRecDepth 100000 in
set_option maxHeartbeats 3200000 in
theorem rSign_q {v : Value} {q : Rat} {B : Nat} {w : World} (h : IV w v q B) (hB : B ≤ 8589934590) : Calls Tryd.prog 7 #[v] w fun e w' => e = .returned (.int .i64 (sgn q)) ∧ Up w w' := by
  obtain ⟨s, A, n, c, A', n', c', rfl⟩ := h.shape
  have H := Lib.hid (fun wx (u : Up w wx) => rCanonical_q (h.up u) hB)
  have hqs := h.qs
  clear h
  go_enter Tryd.func7, Tryd.ntmps7
  go_wp2_with fail
  obtain ⟨w1, hw1⟩ : ∃ w1, w1 = w.alloc (Obj.cells #[.bool s, .slice A n c, .slice A' n' c'] 24) := ⟨_, rfl⟩
  have U1 : Up w w1 := by rw [hw1]; exact (Below.refl _ _).alloc (Nat.le_refl _) _
  have r1 : Blk w1 w.heap.size 24 #[.bool s, .slice A n c, .slice A' n' c'] := by rw [hw1]; exact Blk.new' _ _ _ rfl
  rw [← hw1]
  clear hw1
  refine (H.out w1 U1).mono ?_
  rintro e w3 ⟨v3, rfl, hQ, hU3⟩
  obtain ⟨s3, A3, n3, c3, A3', n3', c3', rfl⟩ := hQ.shape
  obtain ⟨rfl, rfl, rfl, _, _, _⟩ := hQ.opened
  have U3 := U1.trans hU3
  have r3 := r1.up hU3
  obtain ⟨d0, d1, d2⟩ := tri r3
  have f0 := r3.frozen 0
  have f1 := r3.frozen 1
  have f2 := r3.frozen 2
  have z3 := r3.lt
  have hlq : ln q.num.natAbs ≤ 8589934592 := Nat.le_trans (qs_num q) (by omega)
  clear hQ H hqs
  by_cases hq0 : q.num = 0
  · have hs : sgn q = 0 := by rw [sgn_num, if_pos (by omega)]
    have HS := Lib.hid hs.symm
    have ht : (((ln q.num.natAbs : Nat) : Int) == 0) = true := by rw [hq0]; simp [ln_zero]
    have ht2 : (ln q.num.natAbs == 0) = true := by rw [hq0]; simp [ln_zero]
    obtain ⟨sb, hsb⟩ : ∃ sb, sb = decide (q.num < 0) := ⟨_, rfl⟩
    obtain ⟨N, hN⟩ : ∃ sb, sb = ln q.num.natAbs := ⟨_, rfl⟩
    rw [← hN] at ht ht2 hlq ⊢
    rw [← hsb]
    clear hsb hN hq0 hs
    go_wp2_with fail
    go_ret
    exact ⟨ret_int HS.out, up_tri U3 (Nat.le_refl _) _ _ _⟩
  · have ht : (((ln q.num.natAbs : Nat) : Int) == 0) = false := by simp; exact fun h => hq0 (by have := ln_eq_zero.1 h; omega)
    have ht2 : (ln q.num.natAbs == 0) = false := by simp; exact fun h => hq0 (by have := ln_eq_zero.1 h; omega)
    by_cases hn : q.num < 0
    · have hs : sgn q = -1 := by rw [sgn_num, if_neg (by omega), if_pos (by simpa using hn)]
      have HS := Lib.hid hs.symm
      rw [decide_eq_true hn]
      obtain ⟨N, hN⟩ : ∃ sb, sb = ln q.num.natAbs := ⟨_, rfl⟩
      rw [← hN] at ht ht2 hlq ⊢
      clear hN hq0 hs hn
      go_wp2_with fail
      go_ret
      exact ⟨ret_int HS.out, up_tri U3 (Nat.le_refl _) _ _ _⟩
    · have hs : sgn q = 1 := by rw [sgn_num, if_neg (by omega), if_neg (by simpa using hn)]
      have HS := Lib.hid hs.symm
      rw [decide_eq_false hn]
      obtain ⟨N, hN⟩ : ∃ sb, sb = ln q.num.natAbs := ⟨_, rfl⟩
      rw [← hN] at ht ht2 hlq ⊢
      clear hN hq0 hs hn
      go_wp2_with fail
      go_ret
      exact ⟨ret_int HS.out, up_tri U3 (Nat.le_refl _) _ _ _⟩

set_option maxRecDepth 100000 in
set_option maxHeartbeats 3200000 in
theorem rIntegral_q {v : Value} {q : Rat} {B : Nat} {w : World} (h : IV w v q B) (hB : B ≤ 8589934590) : Calls Tryd.prog 35 #[v] w fun e w' => e = .returned (.bool (q.den == 1)) ∧ Up w w' := by
  obtain ⟨s, A, n, c, A', n', c', rfl⟩ := h.shape
  have H := Lib.hid (fun wx (u : Up w wx) => rCanonical_q (h.up u) hB)
  have hqs := h.qs
  clear h
  go_enter Tryd.func35, Tryd.ntmps35
  go_wp2_with fail
  obtain ⟨w1, hw1⟩ : ∃ w1, w1 = w.alloc (Obj.cells #[.bool s, .slice A n c, .slice A' n' c'] 24) := ⟨_, rfl⟩
  have U1 : Up w w1 := by rw [hw1]; exact (Below.refl _ _).alloc (Nat.le_refl _) _
  have r1 : Blk w1 w.heap.size 24 #[.bool s, .slice A n c, .slice A' n' c'] := by rw [hw1]; exact Blk.new' _ _ _ rfl
  rw [← hw1]
  clear hw1
  refine (H.out w1 U1).mono ?_
  rintro e w3 ⟨v3, rfl, hQ, hU3⟩
  obtain ⟨s3, A3, n3, c3, A3', n3', c3', rfl⟩ := hQ.shape
  obtain ⟨rfl, rfl, rfl, _, hden, _⟩ := hQ.opened
  have U3 := U1.trans hU3
  have r3 := r1.up hU3
  obtain ⟨d0, d1, d2⟩ := tri r3
  have f0 := r3.frozen 0
  have f1 := r3.frozen 1
  have f2 := r3.frozen 2
  have z3 := r3.lt
  have hlq : ln q.den ≤ 8589934592 := Nat.le_trans (qs_den q) (by omega)
  clear hQ H hqs
  obtain ⟨N, hN⟩ : ∃ sb, sb = ln q.num.natAbs := ⟨_, rfl⟩
  rw [← hN]
  clear hN
  have hd0 := q.den_nz
  obtain ⟨D, hD⟩ : ∃ D, D = q.den := ⟨_, rfl⟩
  rw [← hD] at hd0 hden hlq ⊢
  have HDD := Lib.hid hD
  clear hD
  have hz : 0 < ln D := Nat.pos_of_ne_zero fun h => hd0 (ln_eq_zero.1 h)
  by_cases hl1 : ln D = 1
  · have hgd := digs_small hd0 (by have := ln_le.1 (Nat.le_of_eq hl1); simpa using this)
    have hcell : ∃ ad, A3' = some ad ∧ ad.block < w3.heap.size ∧ w3.cell? (ad.add 0) = some (.int .u32 (D : Int)) := by
      unfold NS at hden
      rw [hgd] at hden
      exact hden.nat (k := 0) (by simp)
    obtain ⟨ad, rfl, had, hcl⟩ := hcell
    have hcl : w3.cell? ad = some (.int .u32 (D : Int)) := hcl
    rw [hl1]
    have hne : ad ≠ ⟨w.heap.size, 0, none⟩ ∧ ad ≠ ⟨w.heap.size, 1, none⟩ ∧ ad ≠ ⟨w.heap.size, 2, none⟩ := by
      refine ⟨?_, ?_, ?_⟩ <;> (rintro rfl; first | (rw [d0] at hcl; cases hcl) | (rw [d1] at hcl; cases hcl) | (rw [d2] at hcl; cases hcl))
    obtain ⟨ne0, ne1, ne2⟩ := hne
    have hcl4 : ((((w3.setCell ⟨w.heap.size, 0, none⟩ (.bool (decide (q.num < 0)))).setCell ⟨w.heap.size, 1, none⟩ (.slice A3 N c3)).setCell ⟨w.heap.size, 2, none⟩ (.slice (some ad) 1 c3'))).cell? ad = some (.int .u32 (D : Int)) := by
      rw [World.cell?_setCell_other _ _ _ _ (Ne.symm ne2), World.cell?_setCell_other _ _ _ _ (Ne.symm ne1), World.cell?_setCell_other _ _ _ _ (Ne.symm ne0)]; exact hcl
    clear hgd hden hl1 hz
    go_wp2_with fail
    go_ret
    exact ⟨ret_bool (by rw [← HDD.out, Bool.eq_iff_iff]; simp <;> omega), up_tri U3 (Nat.le_refl _) _ _ _⟩
  · have ht : (((ln D : Nat) : Int) == 1) = false := by simp; omega
    have ht2 : (ln D == 1) = false := by simp; omega
    have hs : (q.den == 1) = false := by
      rw [← HDD.out]; simp; rintro rfl; exact hl1 ln_one
    have HS := Lib.hid hs.symm
    clear hs hl1 hden
    go_wp2_with fail
    go_ret
    exact ⟨ret_bool HS.out, up_tri U3 (Nat.le_refl _) _ _ _⟩
end Go.Proofs.YtefiapjfiojaoaaDoor
