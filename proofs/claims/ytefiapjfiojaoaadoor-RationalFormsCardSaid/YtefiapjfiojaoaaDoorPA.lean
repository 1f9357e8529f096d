/-
  PA: Sched, Words, Words2, Limbs, NWords, NTrim, NBasic, NWord, NAdd, NSub, NMul, NSmall.
-/
import Derived.Deep.RegionHeld3
import Derived.Lib.Hide
import Derived.WalkKit
import Derived.WalkSpells
import Derived.WalkLawsBesides
import Derived.Deep.QuietTactic
import Derived.BigQuiet
import Derived.Deep.DeepCutAuto
import Derived.StillTailTactics
import Derived.Deep.Draws
import Derived.Maps.AppendAt
import Derived.Test.YtefiapjfiojaoaaDoorRows
/-
  A region that draws its order, walked by one schedule: reads and arithmetic are taken first, the calls come up one by one.
-/
namespace Go.Proofs.YtefiapjfiojaoaaDoor
open Go Go.RowKit

section
variable {P : Program} {ops : Array Oper} {Q : Exit → Act → World → Prop} {md : Region.Mode} {S : World → Prop}

/-- Each marked operation is the only one that may come up; each other may be taken first. -/
def schedOk (md : Region.Mode) (ops : Array Oper) : Array Bool → List (Nat × Bool) → Bool
  | L, [] => (Region.ready md ops L).isEmpty
  | L, (i, true) :: r => decide (Region.ready md ops L = [i]) && schedOk md ops (L.setIfInBounds i true) r
  | L, (i, false) :: r => Region.free md ops L i && (Region.ready md ops L).contains i && schedOk md ops (L.setIfInBounds i true) r

/-- What is to be shown along the schedule. -/
def wpSched (P : Program) (ops : Array Oper) (Q : Exit → Act → World → Prop) (S : World → Prop) : List (Nat × Bool) → Act → World → Prop
  | [], a, w => Q .normal a w
  | (i, true) :: r, a, w => wpOp P ops Q i (fun a' w' => S w' ∧ wpSched P ops Q S r a' w') a w
  | (i, false) :: r, a, w => ∃ o v, ops[i]? = some o ∧ YieldsIf P ops S o v a ∧ wpSched P ops Q S r (a.put o.dst v) w

theorem wpSched_sound (hs : Region.noSelect ops = true) (hQ : ∀ c a w d v, Q (.panic c) (Act.put a d v) w → Q (.panic c) a w) :
    ∀ (sched : List (Nat × Bool)) (L : Array Bool) (a : Act) (w : World), schedOk md ops L sched = true → S w → wpSched P ops Q S sched a w → wpAnyH P md ops Q S sched.length L a w := by
  intro sched
  induction sched with
  | nil =>
    intro L a w hk _ h
    exact wpAnyH_done (by simpa [schedOk] using hk) h _
  | cons x r ih =>
    obtain ⟨i, b⟩ := x
    intro L a w hk hS h
    cases b with
    | true =>
      simp only [schedOk, Bool.and_eq_true, decide_eq_true_eq] at hk
      refine wpAnyH_all hk.1 (by simp) fun j hj => ?_
      obtain rfl : j = i := by simpa using hj
      exact wpOp_mono (fun a' w' hh => ⟨hh.1, ih _ a' w' hk.2 hh.1 hh.2⟩) h
    | false =>
      simp only [schedOk, Bool.and_eq_true] at hk
      obtain ⟨o, v, ho, hy, h⟩ := h
      exact wpAnyH_take ho hs hk.1.1 hk.1.2 (fun c a w hh => hQ c a w _ _ hh) hy hS (ih _ _ w hk.2 hS h)

theorem wp_region_sched {id : Nat} {a : Act} {w : World} (sched : List (Nat × Bool)) (hm : P.follows .mixedOrders = true) (hs : Region.noSelect ops = true) (hl : sched.length = ops.size)
    (hk : schedOk .any ops (Array.replicate ops.size false) sched = true) (hQ : ∀ c a w d v, Q (.panic c) (Act.put a d v) w → Q (.panic c) a w)
    (hS : S w.drew) (h : ∀ O, Hid (O = ops) → wpSched P O Q S sched a w.drew) : (Code.region id ops true).wp P Q a w :=
  wp_region_held hm (by rw [← hl]; exact wpSched_sound hs hQ sched _ a _ (by rw [hl]; exact hk) hS (h ops (Lib.hid rfl)))

theorem wpSched_take {i : Nat} {r : List (Nat × Bool)} {a : Act} {w : World} {o : Oper} {v : Value} (ho : ops[i]? = some o) (hy : YieldsIf P ops S o v a) (h : wpSched P ops Q S r (a.put o.dst v) w) :
    wpSched P ops Q S ((i, false) :: r) a w := ⟨o, v, ho, hy, h⟩
theorem wpSched_call {i : Nat} {r : List (Nat × Bool)} {a : Act} {w : World} {o : Oper} (ho : ops[i]? = some o) (hw : Region.wanted o (yielded ops a.tmps) = true)
    (h : ∀ K' : Act → World → Prop, Shut (∀ a w, S w → (S w → wpSched P ops Q S r a w) → K' a w) → Oper.wp P o a w K' Q) : wpSched P ops Q S ((i, true) :: r) a w := by
  show wpOp P ops Q i _ a w
  refine wpOp_step ho fun K' hK => ?_
  rw [if_pos hw]
  exact h K' fun a w hS hh => hK a w ⟨hS, hh hS⟩
theorem wpSched_skip {i : Nat} {r : List (Nat × Bool)} {a : Act} {w : World} {o : Oper} (ho : ops[i]? = some o) (hw : Region.wanted o (yielded ops a.tmps) = false) (hS : S w)
    (h : wpSched P ops Q S r (a.put o.dst undef) w) : wpSched P ops Q S ((i, true) :: r) a w := by
  show wpOp P ops Q i _ a w
  exact YieldsIf.wpOp (S := S) (v := undef) ho (Or.inr ⟨hw, rfl⟩) hS ⟨hS, h⟩
theorem wpSched_end {a : Act} {w : World} (h : Q .normal a w) : wpSched P ops Q S [] a w := h
end
end Go.Proofs.YtefiapjfiojaoaaDoor

/-
  Words for memory: a block that is known whole; a slice that reads as a list of integers; small laws on worlds.
-/
namespace Go.Proofs.YtefiapjfiojaoaaDoor
open Go.RowKit

theorem block_of_add (a : Addr) (n : Nat) : (a.add n).block = a.block := by unfold Addr.add; split <;> rfl
theorem add_of_add (a : Addr) (i j : Nat) : (a.add i).add j = a.add (i + j) := by
  unfold Addr.add
  by_cases hi : i = 0 <;> by_cases hj : j = 0 <;> simp [hi, hj, Nat.add_assoc]

/-- What existed in w is there unchanged in the second world. -/
abbrev Up (w w' : World) : Prop := Below w.heap.size w w'
theorem Up.trans {a b c : World} (h : Up a b) (k : Up b c) : Up a c := Below.trans h (Below.mono k h.size)
theorem Up.refl (w : World) : Up w w := Below.refl _ _
theorem below_up {B : Nat} {a b c : World} (h : Below B a b) (k : Up b c) (hB : B ≤ b.heap.size) : Below B a c := h.trans (Below.mono k hB)
theorem below_drewN {B : Nat} {a w : World} (h : Below B a w) (n : Nat) : Below B a (w.drewN n) := ⟨h.os, h.tape, h.output, h.size, h.block⟩

/-- Old cells and marks read as they did: two rules that the walk uses by itself. -/
theorem bcell {W w1 : World} (hb : Up W w1) : (∀ b o, b < W.heap.size → w1.cell? ⟨b, o, none⟩ = W.cell? ⟨b, o, none⟩) ∧ (∀ b o, b < W.heap.size → w1.frozen? ⟨b, o, none⟩ = W.frozen? ⟨b, o, none⟩) ∧ (∀ b, b < W.heap.size → b < w1.heap.size) ∧
    (∀ b, b < W.heap.size → b < w1.heap.size + 1) ∧ (∀ b, b < W.heap.size → b < w1.heap.size + 1 + 1) ∧ (∀ n : Nat, n < n + 1 + 1) :=
  ⟨fun b o h => hb.cell (p := ⟨b, o, none⟩) h, fun b o h => hb.frozen (p := ⟨b, o, none⟩) h, fun _ h => Nat.lt_of_lt_of_le h hb.size, fun _ h => Nat.lt_succ_of_lt (Nat.lt_of_lt_of_le h hb.size),
   fun _ h => Nat.lt_succ_of_lt (Nat.lt_succ_of_lt (Nat.lt_of_lt_of_le h hb.size)), fun n => by omega⟩

/-- Block g is just the cells cs of element type t, none of them frozen. -/
def Blk (w : World) (g : Nat) (t : TypeId) (cs : Array Value) : Prop := w.heap[g]? = some (.cells cs t (0, 0))
section
variable {w w' : World} {g : Nat} {t : TypeId} {cs : Array Value}
theorem Blk.lt (h : Blk w g t cs) : g < w.heap.size := by
  rcases Nat.lt_or_ge g w.heap.size with hlt | hge
  · exact hlt
  · unfold Blk at h; rw [Array.getElem?_eq_none hge] at h; cases h
theorem Blk.cell (h : Blk w g t cs) (i : Nat) : w.cell? ⟨g, i, none⟩ = cs[i]? := cell_of_row w g i cs t (0, 0) h
theorem Blk.frozen (h : Blk w g t cs) (i : Nat) : w.frozen? ⟨g, i, none⟩ = false := by
  unfold Blk at h
  simp [World.frozen?, h]
theorem Blk.new (w : World) (t : TypeId) (cs : Array Value) : Blk (w.alloc (.cells cs t)) w.heap.size t cs := heap_alloc_new w _
theorem Blk.new' (w : World) (t : TypeId) (cs : Array Value) {g : Nat} (hg : g = w.heap.size) : Blk (w.alloc (.cells cs t)) g t cs := by rw [hg]; exact heap_alloc_new w _
theorem Blk.drew (h : Blk w g t cs) : Blk w.drew g t cs := h
theorem Blk.drewN (h : Blk w g t cs) (n : Nat) : Blk (w.drewN n) g t cs := h
theorem Blk.alloc (h : Blk w g t cs) (o : Obj) : Blk (w.alloc o) g t cs := (Below.heap_alloc w o g h.lt).trans h
theorem Blk.set_ (h : Blk w g t cs) (i : Nat) (u : Value) : Blk (w.setCell ⟨g, i, none⟩ u) g t (cs.setIfInBounds i u) := by
  unfold Blk at h ⊢
  simp [World.setCell, Array.getElem?_modify, h]
theorem Blk.far (h : Blk w g t cs) {p : Addr} (hp : g ≠ p.block) (u : Value) : Blk (w.setCell p u) g t cs := (Below.heap_setCell w p u g hp).trans h
theorem Blk.below {B : Nat} (h : Blk w g t cs) (hb : Below B w w') (hg : g < B) : Blk w' g t cs := (hb.block g hg).trans h
theorem Blk.up (h : Blk w g t cs) (hb : Up w w') : Blk w' g t cs := h.below hb h.lt
theorem Blk.ne_ {g' : Nat} {t' : TypeId} {cs' : Array Value} (h : Blk w g t cs) (h' : Blk w g' t' cs') (hne : t ≠ t') : g ≠ g' := by
  rintro rfl
  unfold Blk at h h'
  rw [h] at h'
  injection h' with h'
  injection h' with _ ht
  exact hne ht
end

/-- A slice value at address A reads as the numbers zs in the world w, below block B. -/
def SI (w : World) (B : Nat) (K : IntKind) (A : Option Addr) (zs : List Int) : Prop :=
  0 < zs.length → ∃ ad, A = some ad ∧ ad.block < B ∧ ∀ j (h : j < zs.length), w.cell? (ad.add j) = some (.int K zs[j])
section
variable {w w' : World} {B B' : Nat} {K : IntKind} {A : Option Addr} {zs : List Int}
theorem SI.nil_ : SI w B K A [] := fun h => absurd h (by simp)
theorem SI.at_ (h : SI w B K A zs) {k : Nat} (hk : k < zs.length) : ∃ ad, A = some ad ∧ ad.block < B ∧ w.cell? (ad.add k) = some (.int K zs[k]) := by
  obtain ⟨ad, e, hb, hc⟩ := h (by omega)
  exact ⟨ad, e, hb, hc k hk⟩
theorem SI.keep (h : SI w B K A zs) (hk : ∀ p : Addr, p.block < B → w'.cell? p = w.cell? p) : SI w' B K A zs := fun h0 => by
  obtain ⟨ad, e, hl, hc⟩ := h h0
  exact ⟨ad, e, hl, fun j hj => (hk _ (by rw [block_of_add]; exact hl)).trans (hc j hj)⟩
theorem SI.below (h : SI w B K A zs) (hb : Below B w w') : SI w' B K A zs := h.keep fun _ hp => hb.cell hp
theorem SI.more (h : SI w B K A zs) (hB : B ≤ B') : SI w B' K A zs := fun h0 => by
  obtain ⟨ad, e, hl, hc⟩ := h h0
  exact ⟨ad, e, by omega, hc⟩
theorem SI.up (h : SI w w.heap.size K A zs) (hb : Up w w') : SI w' w'.heap.size K A zs := (h.below hb).more hb.size
theorem SI.take (h : SI w B K A zs) (k : Nat) : SI w B K A (zs.take k) := fun h0 => by
  have hl : (zs.take k).length ≤ zs.length := List.length_take_le' _ _
  obtain ⟨ad, e, hl', hc⟩ := h (by omega)
  exact ⟨ad, e, hl', fun j hj => by rw [List.getElem_take]; exact hc j (by omega)⟩
theorem SI.blk {g : Nat} {t : TypeId} (zs : List Int) (h : Blk w g t (zs.map (Value.int K)).toArray) (hg : g < B) : SI w B K (some ⟨g, 0, none⟩) zs := fun _ =>
  ⟨⟨g, 0, none⟩, rfl, hg, fun j hj => by
    have := h.cell j
    rw [show (Addr.add ⟨g, 0, none⟩ j) = ⟨g, j, none⟩ from by simp [Addr.add]; exact fun h => h.symm, this]
    simp [hj]⟩
end

theorem bret1 {P : Program} {fn : Func} {R : Ending → World → Prop} {a : Act} {w : World} {v : Value}
    (hr : (results fn a.tmps).run P w = .ok v w) (hd : a.defers = []) (hR : R (.returned v) w) : bodyPost P fn R .ret a w := bodyPost_ret hr hd hR
theorem ret_int {k : IntKind} {a b : Int} (h : a = b) : Ending.returned (.int k a) = .returned (.int k b) := by rw [h]
theorem ret_bool {a b : Bool} (h : a = b) : Ending.returned (.bool a) = .returned (.bool b) := by rw [h]
end Go.Proofs.YtefiapjfiojaoaaDoor

/-
  Words for memory, more: rows of integers that the call itself made; append onto them.
-/
namespace Go.Proofs.YtefiapjfiojaoaaDoor
open Go.RowKit

/-- The tables' rows of a slice type t of elements e of integer kind K. -/
structure IntTab (P : Program) (t e : TypeId) (K : IntKind) : Prop where
  und : P.underlying t = some (.slice e)
  und' : P.underlying e = some (.int K)
  info : ∃ i, P.info? e = some i ∧ i.zero = some (.int K 0) ∧ i.size = 1 ∧ i.bytes ≤ 8

/-- The slice value v owns a row of the numbers zs, in a block from base on. -/
def OI (w : World) (base : Nat) (e : TypeId) (K : IntKind) (v : Value) (zs : List Int) : Prop := w.ownsRow base e 1 v zs.length (zs.map (Value.int K))

section
variable {w w' : World} {base : Nat} {e : TypeId} {K : IntKind} {v : Value} {zs : List Int}
theorem OI.nil_ : OI w base e K (.slice none 0 0) [] := World.ownsRow_nil w base e 1
theorem OI.alloc (h : OI w base e K v zs) (o : Obj) : OI (w.alloc o) base e K v zs := World.ownsRow.alloc h o
theorem OI.drew (h : OI w base e K v zs) : OI w.drew base e K v zs := h
/-- What a row that the call owns is as a value, and as a slice that reads. -/
theorem OI.form (h : OI w base e K v zs) : ∃ A c, v = .slice A zs.length c ∧ zs.length ≤ c ∧ c ≤ maxLen ∧ SI w w.heap.size K A zs ∧ (A = none ∧ c = 0 ∧ v.ownBlock = none ∨ ∃ g, A = some ⟨g, 0, none⟩ ∧ v.ownBlock = some g ∧ base ≤ g ∧ g < w.heap.size) := by
  have h' := h
  unfold OI at h
  obtain ⟨h1, h2⟩ := h
  rcases h2 with ⟨rfl, hx⟩ | ⟨g, cap, cur, rfl, hbg, hh, hnc, hcm, hcs, hcur⟩
  · have : zs = [] := by simpa using hx
    subst this
    exact ⟨none, 0, rfl, Nat.le_refl _, by simp [maxLen], SI.nil_, .inl ⟨rfl, rfl, rfl⟩⟩
  · have hg : g < w.heap.size := by
      rcases Nat.lt_or_ge g w.heap.size with hlt | hge
      · exact hlt
      · rw [Array.getElem?_eq_none hge] at hh; cases hh
    refine ⟨some ⟨g, 0, none⟩, cap, rfl, hnc, hcm, fun h0 => ⟨⟨g, 0, none⟩, rfl, hg, fun j hj => ?_⟩, .inr ⟨g, rfl, rfl, hbg, hg⟩⟩
    have := World.ownsRow.cells h' (g := g) rfl j (.int K zs[j]) (by simp [hj])
    exact this
theorem OI.keep (h : OI w base e K v zs) {row : Option Nat} (hg : w.grownBy w' row) (hne : v.ownBlock = none ∨ v.ownBlock ≠ row) : OI w' base e K v zs := World.ownsRow.kept h hg hne
theorem OI.up (h : OI w base e K v zs) (hu : Up w w') : OI w' base e K v zs :=
  h.keep (row := none) ⟨hu.os, hu.tape, hu.output, hu.size, fun k hk _ => hu.block k hk⟩ (by cases v.ownBlock <;> simp)
end

section
variable {P : Program} (w : World)
theorem run_append_nil' (base : Nat) (t ty e : TypeId) (i : TypeInfo) (ht : P.underlying t = some (.slice e)) (hi : P.info? e = some i)
    (v : Value) (n : Nat) (xs : List Value) (hown : w.ownsRow base e 1 v n xs) (c : Nat) : (Builtin.append_ #[t, t] ty #[v, .slice none 0 c]).run P w = .ok v w := by
  rcases hown.2 with ⟨rfl, rfl⟩ | ⟨g, cap, cur, rfl, _, _, hnc, _⟩
  · simp [Builtin.append_, run_underlying ht, sizeOf, typeInfo, hi, Builtin.lenOf, Builtin.firstCells]
  · simp [Builtin.append_, run_underlying ht, sizeOf, typeInfo, hi, Builtin.lenOf, Builtin.firstCells, hnc, storeCells]

/-- What an append of integers leaves. -/
structure Appended (w w' : World) (base : Nat) (e : TypeId) (K : IntKind) (v v' : Value) (zs : List Int) : Prop where
  own : OI w' base e K v' zs
  grown : w.grownBy w' v.ownBlock
  at_ : v'.ownBlock = v.ownBlock ∨ v'.ownBlock = some w.heap.size

theorem run_append_ints (base : Nat) (t ty e : TypeId) (K : IntKind) (T : IntTab P t e K) (v : Value) (xs : List Int) (hown : OI w base e K v xs)
    (B : Nat) (A : Option Addr) (c : Nat) (ys : List Int) (hr : SI w B K A ys) (hlen : xs.length + ys.length ≤ 17592186044416) (hbase : base ≤ w.heap.size) :
    ∃ v' w', (Builtin.append_ #[t, t] ty #[v, .slice A ys.length c]).run P w = .ok v' w' ∧ Appended w w' base e K v v' (xs ++ ys) := by
  obtain ⟨i, hi, hz, hs, hb⟩ := T.info
  rcases A with _ | ad
  · have hn : ys = [] := by
      cases ys with
      | nil => rfl
      | cons y ys => obtain ⟨ad, h, _⟩ := hr (by simp); cases h
    subst hn
    refine ⟨v, w, ?_, ⟨by rw [List.append_nil]; exact hown, World.grownBy.refl w _, .inl rfl⟩⟩
    exact run_append_nil' w base t ty e i T.und hi v _ _ hown c
  · obtain ⟨v', w', hrun, h2, h3, _, h5⟩ := run_append_own_at (P := P) w base t ty e i (.int K 0) 1 i.bytes T.und hi hz hs rfl rfl (by omega) v xs.length _ hown ad ys.length c (ys.map (Value.int K)) (by simp)
      (by
        intro j u hu
        by_cases hj : j < ys.length
        · obtain ⟨ad', h, _, hc⟩ := hr (by omega)
          injection h with h
          subst h
          rw [hc j hj]
          simpa [hj] using hu
        · simp [List.getElem?_eq_none (by omega : ys.length ≤ j)] at hu)
      (by intro u hu; simp at hu; obtain ⟨_, _, rfl⟩ := hu; rfl) (by simp only [maxLen]; omega)
      (Nat.le_trans (Nat.mul_le_mul (Nat.le_refl _) hb) (by omega)) hbase
    refine ⟨v', w', hrun, ⟨?_, h3, h5⟩⟩
    unfold OI
    rw [List.length_append, List.map_append]
    exact h2

end
section
variable {P : Program} {w : World}
theorem wpList_append_ints {ops : Array Oper} {rest : List Oper} {o : Oper} {a : Act} {Q : Exit → Act → World → Prop} (hgd : o.guard = none) (s x : Operand) (t : TypeId)
    (ho : o.op = .call { callee := .builtin .append, args := #[s, x], argTypes := #[t, t] })
    (base : Nat) (e : TypeId) (K : IntKind) (T : IntTab P t e K) (v : Value) (xs : List Int) (hs : a.eval s = v) (hown : OI w base e K v xs)
    (B : Nat) (A : Option Addr) (c : Nat) (ys : List Int) (hx : a.eval x = .slice A ys.length c) (hr : SI w B K A ys) (hlen : xs.length + ys.length ≤ 17592186044416) (hbase : base ≤ w.heap.size)
    (h : ∀ v' w', Appended w w' base e K v v' (xs ++ ys) → wpList P ops Q rest (a.put o.dst v') w') : wpList P ops Q (o :: rest) a w := by
  obtain ⟨v', w', hrun, hA⟩ := run_append_ints (P := P) w base t o.type e K T v xs hown B A c ys hr hlen hbase
  refine wpList_plain hgd fun _ hK => ?_
  unfold Oper.wp execOp
  simp only [ho, resolve, invoke, builtin, Sem.run_bind, Sem.run_pure, Result.andThen_ok, List.map_toArray, List.map_cons, List.map_nil, hs, hx, hrun]
  exact hK _ _ (h v' w' hA)
end
section
variable {P : Program} {w : World}
theorem up_of_grown {w' : World} (h : w.grownBy w' none) : Up w w' := ⟨h.os, h.tape, h.output, h.size, fun k hk => h.block k hk (by simp)⟩
/-- make([]T, 0, n). -/
theorem wpList_make0 {ops : Array Oper} {rest : List Oper} {o : Oper} {a : Act} {Q : Exit → Act → World → Prop} (hg : o.guard = none) (l c : Operand) (t : TypeId) (hop : o.op = Op.makeSlice t l c)
    (base : Nat) (e : TypeId) (K : IntKind) (T : IntTab P t e K) (kl kc : IntKind) (C : Int) (n : Nat) (hl : a.eval l = .int kl 0) (hc : a.eval c = .int kc C) (hC : C = (n : Int)) (hn : n ≤ 17592186044416) (hb : base ≤ w.heap.size)
    (hK : ∀ w', OI w' base e K (.slice (some ⟨w.heap.size, 0, none⟩) 0 n) [] → Up w w' → wpList P ops Q rest (a.put o.dst (.slice (some ⟨w.heap.size, 0, none⟩) 0 n)) w') :
    wpList P ops Q (o :: rest) a w := by
  obtain ⟨i, hi, hz, hs, hby⟩ := T.info
  exact wpList_make_own w hg l c t hop base e i _ 1 T.und hi hz hs kl kc C n hl hc hC (Nat.le_trans (Nat.mul_le_mul hby (Nat.le_refl n)) (by omega)) (by simp only [maxLen]; omega) hb
    fun w' h1 h2 => hK w' h1 (up_of_grown h2)
/-- make([]T, n). -/
theorem wpList_makeN {ops : Array Oper} {rest : List Oper} {o : Oper} {a : Act} {Q : Exit → Act → World → Prop} (hg : o.guard = none) (l c : Operand) (t : TypeId) (hop : o.op = Op.makeSlice t l c)
    (base : Nat) (e : TypeId) (K : IntKind) (T : IntTab P t e K) (kl kc : IntKind) (L C : Int) (n : Nat) (hl : a.eval l = .int kl L) (hc : a.eval c = .int kc C) (hL : L = (n : Int)) (hC : C = (n : Int)) (hn : n ≤ 17592186044416) (hb : base ≤ w.heap.size)
    (hK : ∀ w', OI w' base e K (.slice (some ⟨w.heap.size, 0, none⟩) n n) (List.replicate n 0) → Up w w' → wpList P ops Q rest (a.put o.dst (.slice (some ⟨w.heap.size, 0, none⟩) n n)) w') :
    wpList P ops Q (o :: rest) a w := by
  obtain ⟨i, hi, hz, hs, hby⟩ := T.info
  refine wpList_make_full w hg l c t hop base e i _ 1 T.und hi hz hs kl kc L C n hl hc hL hC (Nat.le_trans (Nat.mul_le_mul hby (Nat.le_refl n)) (by omega)) (by simp only [maxLen]; omega) hb
    fun w' h1 h2 => hK w' ?_ (up_of_grown h2)
  unfold OI
  rw [List.length_replicate, List.map_replicate]
  have e : (madeCells (Value.int K 0).cells (n * 1)).toList = List.replicate n (Value.int K 0) := by
    rw [Nat.mul_one]
    exact toList_madeCells_one _ _
  rwa [e] at h1
end
/-- A row of the call's own that fills its block. -/
theorem OI.blk {w : World} {base : Nat} {e : TypeId} {K : IntKind} {g : Nat} {zs : List Int} (h : OI w base e K (.slice (some ⟨g, 0, none⟩) zs.length zs.length) zs) : Blk w g e (zs.map (Value.int K)).toArray ∧ base ≤ g := by
  unfold OI at h
  obtain ⟨h1, h2⟩ := h
  rcases h2 with ⟨h2, _⟩ | ⟨g', cap, cur, hv, hbg, hh, hnc, hcm, hcs, hcur⟩
  · injection h2 with h2; cases h2
  · injection hv with hv hv2 hv3
    injection hv with hv
    injection hv with hv
    subst hv
    rw [← hv3, Nat.mul_one] at hcs
    rw [Nat.mul_one, List.take_of_length_le (by simp [hcs])] at hcur
    refine ⟨?_, hbg⟩
    unfold Blk
    rw [hh, ← hcur]
section
variable {P : Program} {w : World}
theorem wpList_makeB {ops : Array Oper} {rest : List Oper} {o : Oper} {a : Act} {Q : Exit → Act → World → Prop} (hg : o.guard = none) (l c : Operand) (t : TypeId) (hop : o.op = Op.makeSlice t l c)
    (e : TypeId) (K : IntKind) (T : IntTab P t e K) (kl kc : IntKind) (L C : Int) (n : Nat) (hl : a.eval l = .int kl L) (hc : a.eval c = .int kc C) (hL : L = (n : Int)) (hC : C = (n : Int)) (hn : n ≤ 17592186044416)
    (hK : ∀ w', Blk w' w.heap.size e ((List.replicate n (0 : Int)).map (Value.int K)).toArray → Up w w' → wpList P ops Q rest (a.put o.dst (.slice (some ⟨w.heap.size, 0, none⟩) n n)) w') :
    wpList P ops Q (o :: rest) a w :=
  wpList_makeN hg l c t hop w.heap.size e K T kl kc L C n hl hc hL hC hn (Nat.le_refl _) fun w' h1 h2 =>
    hK w' (OI.blk (by rw [List.length_replicate]; exact h1)).1 h2
end
theorem Appended.below {w w' : World} {base : Nat} {e : TypeId} {K : IntKind} {v v' : Value} {zs xs : List Int} {w0 : World} (h : Appended w w' base e K v v' zs) (hb : Below base w0 w) (ho : OI w base e K v xs) (hB : base ≤ w.heap.size) : Below base w0 w' :=
  hb.grown h.grown hB (fun k hk => (World.ownsRow.lt ho k hk).1)
end Go.Proofs.YtefiapjfiojaoaaDoor

/-
  Natural numbers as lists of limbs to the base 10^9: plain laws, no program in sight.
-/
namespace Go.Proofs.YtefiapjfiojaoaaDoor

/-- The number that a list of limbs denotes, least significant limb first. -/
def nv : List Nat → Nat
  | [] => 0
  | a :: l => a + 1000000000 * nv l

/-- The canonical limbs of a number. -/
def digs (n : Nat) : List Nat := if n = 0 then [] else n % 1000000000 :: digs (n / 1000000000)
termination_by n
decreasing_by omega

def ln (n : Nat) : Nat := (digs n).length

theorem digs_zero : digs 0 = [] := by rw [digs]; simp
theorem digs_pos {n : Nat} (h : n ≠ 0) : digs n = n % 1000000000 :: digs (n / 1000000000) := by rw [digs, if_neg h]
theorem digs_small {n : Nat} (h : n ≠ 0) (h' : n < 1000000000) : digs n = [n] := by
  rw [digs_pos h, show n / 1000000000 = 0 from by omega, digs_zero, show n % 1000000000 = n from by omega]
theorem digs_nil {n : Nat} : digs n = [] ↔ n = 0 := by
  constructor
  · intro h
    by_cases e : n = 0
    · exact e
    · rw [digs_pos e] at h; cases h
  · rintro rfl; exact digs_zero
theorem ln_zero : ln 0 = 0 := by simp [ln, digs_zero]
theorem ln_pos {n : Nat} (h : n ≠ 0) : ln n = ln (n / 1000000000) + 1 := by simp [ln, digs_pos h]
theorem ln_eq_zero {n : Nat} : ln n = 0 ↔ n = 0 := by rw [ln, List.length_eq_zero_iff, digs_nil]

theorem nv_digs (n : Nat) : nv (digs n) = n := by
  induction n using Nat.strongRecOn with
  | _ n ih =>
    by_cases h : n = 0
    · subst h; simp [digs_zero, nv]
    · rw [digs_pos h, nv, ih (n / 1000000000) (by omega)]
      omega

theorem digs_lt (n : Nat) : ∀ a ∈ digs n, a < 1000000000 := by
  induction n using Nat.strongRecOn with
  | _ n ih =>
    by_cases h : n = 0
    · subst h; simp [digs_zero]
    · rw [digs_pos h]
      intro a ha
      rcases List.mem_cons.1 ha with rfl | ha
      · omega
      · exact ih _ (by omega) a ha

theorem nv_append (l m : List Nat) : nv (l ++ m) = nv l + 1000000000 ^ l.length * nv m := by
  induction l with
  | nil => simp [nv]
  | cons a l ih =>
    simp only [List.cons_append, nv, ih, List.length_cons, Nat.pow_succ]
    rw [Nat.mul_add, Nat.mul_comm (1000000000 ^ l.length) 1000000000, Nat.mul_assoc]
    omega
theorem nv_snoc (l : List Nat) (a : Nat) : nv (l ++ [a]) = nv l + 1000000000 ^ l.length * a := by rw [nv_append]; simp [nv]
theorem nv_take (l : List Nat) (k : Nat) (h : k < l.length) : nv (l.take (k + 1)) = nv (l.take k) + 1000000000 ^ k * l[k] := by
  rw [List.take_succ_eq_append_getElem h, nv_snoc, List.length_take, Nat.min_eq_left (by omega)]
theorem nv_zeros (l : List Nat) (k : Nat) : nv (l ++ List.replicate k 0) = nv l := by
  rw [nv_append]
  have : nv (List.replicate k 0) = 0 := by
    induction k with
    | zero => rfl
    | succ k ih => simp [List.replicate_succ, nv, ih]
  rw [this]; omega
theorem nv_lt (l : List Nat) (h : ∀ a ∈ l, a < 1000000000) : nv l < 1000000000 ^ l.length := by
  induction l with
  | nil => simp [nv]
  | cons a l ih =>
    have h1 := h a (by simp)
    have h2 := ih (fun b hb => h b (by simp [hb]))
    simp only [nv, List.length_cons, Nat.pow_succ]
    omega

/-- Few limbs are small numbers. -/
theorem ln_le {n k : Nat} : ln n ≤ k ↔ n < 1000000000 ^ k := by
  constructor
  · intro h
    have h1 := nv_lt (digs n) (digs_lt n)
    rw [nv_digs] at h1
    exact Nat.lt_of_lt_of_le h1 (Nat.pow_le_pow_right (by omega) h)
  · intro h
    induction k generalizing n with
    | zero => simp at h; subst h; simp [ln_zero]
    | succ k ih =>
      by_cases e : n = 0
      · subst e; simp [ln_zero]
      · rw [ln_pos e]
        rw [Nat.pow_succ] at h
        have := ih (n := n / 1000000000) (by omega)
        omega
theorem ln_mono {m n : Nat} (h : m ≤ n) : ln m ≤ ln n := ln_le.2 (Nat.lt_of_le_of_lt h (ln_le.1 (Nat.le_refl _)))
theorem lt_pow_ln (n : Nat) : n < 1000000000 ^ ln n := ln_le.1 (Nat.le_refl _)
theorem pow_le_of_ln {n k : Nat} (h : k < ln n) : 1000000000 ^ k ≤ n := by
  rcases Nat.lt_or_ge n (1000000000 ^ k) with h1 | h1
  · have := ln_le.2 h1; omega
  · exact h1
theorem ln_mul (m n : Nat) : ln (m * n) ≤ ln m + ln n := by
  by_cases h : n = 0
  · subst h; simp [ln_zero]
  · rw [ln_le, Nat.pow_add]
    exact Nat.mul_lt_mul_of_lt_of_le (lt_pow_ln m) (Nat.le_of_lt (lt_pow_ln n)) (Nat.pow_pos (by omega))
theorem ln_add (m n : Nat) : ln (m + n) ≤ max (ln m) (ln n) + 1 := by
  rw [ln_le, Nat.pow_succ]
  have h1 := lt_pow_ln m
  have h2 := lt_pow_ln n
  have h3 : 1000000000 ^ ln m ≤ 1000000000 ^ max (ln m) (ln n) := Nat.pow_le_pow_right (by omega) (by omega)
  have h4 : 1000000000 ^ ln n ≤ 1000000000 ^ max (ln m) (ln n) := Nat.pow_le_pow_right (by omega) (by omega)
  omega
theorem ln_div (m n : Nat) : ln (m / n) ≤ ln m := ln_mono (Nat.div_le_self m n)

/-- A list of limbs below the base whose last one is not zero. -/
def Can (l : List Nat) : Prop := (∀ a ∈ l, a < 1000000000) ∧ l.getLast? ≠ some 0
theorem can_tail {a : Nat} {l : List Nat} (h : Can (a :: l)) : Can l := by
  refine ⟨fun b hb => h.1 b (by simp [hb]), ?_⟩
  cases l with
  | nil => simp
  | cons b l => have := h.2; rwa [List.getLast?_cons_cons] at this
theorem can_nv {l : List Nat} (h : Can l) (hl : l ≠ []) : nv l ≠ 0 := by
  induction l with
  | nil => exact absurd rfl hl
  | cons a l ih =>
    cases l with
    | nil =>
      have := h.2
      simp at this
      simpa [nv] using this
    | cons b l =>
      have := ih (can_tail h) (by simp)
      simp only [nv] at this ⊢
      omega
theorem digs_nv {l : List Nat} (h : Can l) : digs (nv l) = l := by
  induction l with
  | nil => simp [nv, digs_zero]
  | cons a l ih =>
    have h1 := h.1 a (by simp)
    have h2 := can_nv h (by simp)
    rw [digs_pos h2]
    simp only [nv]
    rw [show (a + 1000000000 * nv l) % 1000000000 = a from by omega, show (a + 1000000000 * nv l) / 1000000000 = nv l from by omega, ih (can_tail h)]
theorem can_digs (n : Nat) : Can (digs n) := by
  refine ⟨digs_lt n, ?_⟩
  induction n using Nat.strongRecOn with
  | _ n ih =>
    by_cases h : n = 0
    · subst h; simp [digs_zero]
    · rw [digs_pos h]
      by_cases h' : n / 1000000000 = 0
      · rw [h', digs_zero]; simp; omega
      · have := ih (n / 1000000000) (by omega)
        rw [digs_pos h'] at this ⊢
        rwa [List.getLast?_cons_cons]

/-- Zeros at the end left out, down to k elements at least looked at. -/
theorem digs_trim {l : List Nat} (h : ∀ a ∈ l, a < 1000000000) (n : Nat) (hn : n ≤ l.length) (h0 : ∀ j (hj : j < l.length), n ≤ j → l[j] = 0) (hl : n = 0 ∨ ∃ h : n - 1 < l.length, l[n - 1] ≠ 0) :
    digs (nv l) = l.take n := by
  have e : l = l.take n ++ List.replicate (l.length - n) 0 := by
    apply List.ext_getElem
    · simp; omega
    · intro i h1 h2
      rw [List.getElem_append]
      split
      · simp
      · rename_i hi
        simp at hi ⊢
        exact h0 i h1 (by omega)
  rw [show nv l = nv (l.take n) from by rw [e, nv_zeros]; congr 1; rw [List.take_append_of_le_length (by simp; omega), List.take_take, Nat.min_self]]
  refine digs_nv ⟨fun a ha => h a (List.mem_of_mem_take ha), ?_⟩
  rcases hl with rfl | ⟨h1, h2⟩
  · simp
  · rw [List.getLast?_eq_getElem?, List.length_take, Nat.min_eq_left hn, List.getElem?_take]
    by_cases e0 : n = 0
    · subst e0; simp
    · rw [if_pos (by omega), List.getElem?_eq_getElem h1]
      simpa using h2

/-- One step of a carry. -/
theorem carry_step (N P a c S : Nat) (k : Nat) (h : N + 1000000000 ^ k * c = P) (hS : S = a + c) :
    N + 1000000000 ^ k * (S % 1000000000) + 1000000000 ^ (k + 1) * (S / 1000000000) = P + 1000000000 ^ k * a := by
  rw [Nat.pow_succ, Nat.mul_assoc, Nat.add_assoc, ← Nat.mul_add, Nat.mod_add_div, hS, ← h, Nat.mul_add]
  omega

theorem nv_drop (l : List Nat) (k : Nat) (h : k < l.length) : nv (l.drop k) = l[k] + 1000000000 * nv (l.drop (k + 1)) := by
  rw [List.drop_eq_getElem_cons h, nv]
theorem nv_split (l : List Nat) (k : Nat) (h : k ≤ l.length) : nv l = nv (l.take k) + 1000000000 ^ k * nv (l.drop k) := by
  rw [← List.take_append_drop k l, nv_append, List.take_append_drop, List.length_take, Nat.min_eq_left h]
theorem nv_drop_le (l : List Nat) (k : Nat) (h : k ≤ l.length) : nv (l.drop k) ≤ nv l := by
  rw [nv_split l k h]
  have : 1 ≤ 1000000000 ^ k := Nat.pow_pos (by omega)
  have := Nat.mul_le_mul this (Nat.le_refl (nv (l.drop k)))
  omega
theorem digs_step {n m : Nat} {xs : List Nat} (h : digs n = xs ++ digs m) (hm : m ≠ 0) : digs n = (xs ++ [m % 1000000000]) ++ digs (m / 1000000000) := by
  rw [h, digs_pos hm]; simp

/-- -1, 0 or 1. -/
def cmpN (x y : Nat) : Int := if x < y then -1 else if y < x then 1 else 0
theorem cmpN_lt {x y : Nat} (h : x < y) : cmpN x y = -1 := by simp [cmpN, h]
theorem cmpN_gt {x y : Nat} (h : y < x) : cmpN x y = 1 := by simp [cmpN, h]; omega
theorem cmpN_eq {x y : Nat} (h : x = y) : cmpN x y = 0 := by subst h; simp [cmpN]
theorem lt_of_ln {x y : Nat} (h : ln x < ln y) : x < y := by
  rcases Nat.lt_or_ge x y with h1 | h1
  · exact h1
  · have := ln_mono h1; omega
/-- The first limb from the top that differs decides. -/
theorem nv_lt_of {a b : List Nat} {k : Nat} (ha : ∀ x ∈ a, x < 1000000000) (hk : k < a.length) (hk' : k < b.length) (he : a.drop (k + 1) = b.drop (k + 1)) (hlt : a[k] < b[k]) : nv a < nv b := by
  rw [nv_split a k (by omega), nv_split b k (by omega), nv_drop a k hk, nv_drop b k hk', he]
  have h1 := nv_lt (a.take k) (fun x hx => ha x (List.mem_of_mem_take hx))
  rw [List.length_take, Nat.min_eq_left (by omega)] at h1
  have h2 : 1000000000 ^ k * (a[k] + 1000000000 * nv (b.drop (k + 1))) + 1000000000 ^ k ≤ 1000000000 ^ k * (b[k] + 1000000000 * nv (b.drop (k + 1))) := by
    rw [← Nat.mul_succ]
    exact Nat.mul_le_mul (Nat.le_refl _) (by omega)
  omega

theorem digs_take {ns : List Nat} (hlt : ∀ a ∈ ns, a < 1000000000) : digs (nv ns) = ns.take (ln (nv ns)) ∧ ln (nv ns) ≤ ns.length := by
  have key : ∃ n, n ≤ ns.length ∧ (∀ j (hj : j < ns.length), n ≤ j → ns[j] = 0) ∧ (n = 0 ∨ ∃ h : n - 1 < ns.length, ns[n - 1] ≠ 0) := by
    suffices H : ∀ k, k ≤ ns.length → (∀ j (hj : j < ns.length), k ≤ j → ns[j] = 0) → ∃ n, n ≤ ns.length ∧ (∀ j (hj : j < ns.length), n ≤ j → ns[j] = 0) ∧ (n = 0 ∨ ∃ h : n - 1 < ns.length, ns[n - 1] ≠ 0) from
      H ns.length (Nat.le_refl _) (fun j hj h => absurd hj (by omega))
    intro k
    induction k with
    | zero => exact fun hk h0 => ⟨0, hk, h0, .inl rfl⟩
    | succ k ih =>
      intro hk h0
      by_cases e : ns[k]'(by omega) = 0
      · refine ih (by omega) (fun j hj h => ?_)
        by_cases e' : j = k
        · subst e'; exact e
        · exact h0 j hj (by omega)
      · exact ⟨k + 1, hk, h0, .inr ⟨by omega, by simpa using e⟩⟩
  obtain ⟨n, h1, h2, h3⟩ := key
  have e := digs_trim hlt n h1 h2 h3
  have e2 : ln (nv ns) = n := by rw [ln, e, List.length_take]; omega
  rw [e2]
  exact ⟨e, h1⟩
/-- A list as long as its number's canonical limbs is canonical. -/
theorem digs_of_len {l : List Nat} (h : ∀ a ∈ l, a < 1000000000) (hl : l.length ≤ ln (nv l)) : digs (nv l) = l := by
  rw [(digs_take h).1, List.take_of_length_le hl]
theorem nv_take' (l : List Nat) (k : Nat) : nv (l.take (k + 1)) = nv (l.take k) + 1000000000 ^ k * l.getD k 0 := by
  by_cases h : k < l.length
  · rw [nv_take l k h]; simp [h]
  · rw [List.take_of_length_le (by omega), List.take_of_length_le (by omega)]
    simp [List.getElem?_eq_none (by omega : l.length ≤ k)]
/-- One step of an addition. -/
theorem add_step {N P a b c S k : Nat} (h : N + 1000000000 ^ k * c = P) (hS : S = a + c + b) :
    N + 1000000000 ^ k * (S % 1000000000) + 1000000000 ^ (k + 1) * (S / 1000000000) = P + 1000000000 ^ k * a + 1000000000 ^ k * b := by
  rw [Nat.pow_succ, Nat.mul_assoc, Nat.add_assoc, ← Nat.mul_add, Nat.mod_add_div, hS, ← h, Nat.mul_add, Nat.mul_add]
  omega
/-- One step of a subtraction. -/
theorem sub_step {N P Q a b c d c' k : Nat} (h : P + 1000000000 ^ k * c = N + Q) (hd : a + 1000000000 * c' = d + b + c) :
    P + 1000000000 ^ k * a + 1000000000 ^ (k + 1) * c' = N + 1000000000 ^ k * d + (Q + 1000000000 ^ k * b) := by
  have e : 1000000000 ^ k * a + 1000000000 ^ (k + 1) * c' = 1000000000 ^ k * d + 1000000000 ^ k * b + 1000000000 ^ k * c := by
    rw [Nat.pow_succ, Nat.mul_assoc, ← Nat.mul_add, hd, Nat.mul_add, Nat.mul_add]
  omega
theorem sub_end {N x y c k : Nat} (h : x + 1000000000 ^ k * c = N + y) (hN : N < 1000000000 ^ k) (hy : y ≤ x) (hc : c ≤ 1) : N = x - y := by
  by_cases e : c = 0
  · subst e; omega
  · obtain rfl : c = 1 := by omega
    omega
theorem nv_set (l : List Nat) (p v : Nat) (h : p < l.length) : nv (l.set p v) + 1000000000 ^ p * l[p] = nv l + 1000000000 ^ p * v := by
  induction l generalizing p with
  | nil => simp at h
  | cons a l ih =>
    cases p with
    | zero => simp [nv]; omega
    | succ p =>
      have := ih p (by simpa using h)
      simp only [List.set_cons_succ, nv, List.getElem_cons_succ, Nat.pow_succ]
      rw [Nat.mul_comm (1000000000 ^ p) 1000000000, Nat.mul_assoc, Nat.mul_assoc]
      omega
theorem set_lt {l : List Nat} {p v : Nat} (h : ∀ a ∈ l, a < 1000000000) (hv : v < 1000000000) : ∀ a ∈ l.set p v, a < 1000000000 := by
  intro a ha
  rcases List.mem_or_eq_of_mem_set ha with h1 | h1
  · exact h a h1
  · omega
/-- One step of the inner loop of a multiplication. -/
theorem mul_step {o : List Nat} {i j c S a b T Y : Nat} (hp : i + j < o.length) (h : nv o + 1000000000 ^ (i + j) * c = T + a * (1000000000 ^ i * Y)) (hS : S = a * b + o[i + j] + c) :
    nv (o.set (i + j) (S % 1000000000)) + 1000000000 ^ (i + (j + 1)) * (S / 1000000000) = T + a * (1000000000 ^ i * (Y + 1000000000 ^ j * b)) := by
  have h1 := nv_set o (i + j) (S % 1000000000) hp
  have h2 : 1000000000 ^ (i + j) * S = 1000000000 ^ (i + j) * (S % 1000000000) + 1000000000 ^ (i + (j + 1)) * (S / 1000000000) := by
    rw [show i + (j + 1) = (i + j) + 1 from by omega, Nat.pow_succ, Nat.mul_assoc, ← Nat.mul_add, Nat.mod_add_div]
  have h3 : a * (1000000000 ^ i * (Y + 1000000000 ^ j * b)) = a * (1000000000 ^ i * Y) + 1000000000 ^ (i + j) * (a * b) := by
    rw [Nat.mul_add, Nat.mul_add, Nat.pow_add]
    congr 1
    rw [← Nat.mul_assoc, ← Nat.mul_assoc, ← Nat.mul_assoc]
    rw [Nat.mul_comm a (1000000000 ^ i), Nat.mul_right_comm (1000000000 ^ i) a]
  have h4 : 1000000000 ^ (i + j) * S = 1000000000 ^ (i + j) * (a * b) + 1000000000 ^ (i + j) * o[i + j] + 1000000000 ^ (i + j) * c := by
    rw [hS, Nat.mul_add, Nat.mul_add]
  omega
theorem mul_carry {a b q c : Nat} (ha : a < 1000000000) (hb : b < 1000000000) (hq : q < 1000000000) (hc : c < 1000000000) : a * b ≤ 999999998000000001 ∧ (a * b + q + c) / 1000000000 < 1000000000 := by
  have : a * b ≤ 999999999 * 999999999 := Nat.mul_le_mul (by omega) (by omega)
  omega
/-- The end of a row of a multiplication. -/
theorem mul_row {o : List Nat} {i m c a T y : Nat} (hp : i + m < o.length) (h0 : o[i + m] = 0) (h : nv o + 1000000000 ^ (i + m) * c = T * y + a * (1000000000 ^ i * y)) :
    nv (o.set (i + m) c) = (T + 1000000000 ^ i * a) * y := by
  have h1 := nv_set o (i + m) c hp
  rw [h0, Nat.mul_zero, Nat.add_zero] at h1
  rw [h1, h, Nat.add_mul]
  congr 1
  rw [← Nat.mul_assoc, Nat.mul_comm a]
/-- One step of a multiplication by a small number. -/
theorem small_step {o : List Nat} {k c S a m T : Nat} (hp : k < o.length) (h0 : o[k] = 0) (h : nv o + 1000000000 ^ k * c = T * m) (hS : S = a * m + c) :
    nv (o.set k (S % 1000000000)) + 1000000000 ^ (k + 1) * (S / 1000000000) = (T + 1000000000 ^ k * a) * m := by
  have h1 := nv_set o k (S % 1000000000) hp
  rw [h0, Nat.mul_zero, Nat.add_zero] at h1
  have h2 : 1000000000 ^ k * S = 1000000000 ^ k * (S % 1000000000) + 1000000000 ^ (k + 1) * (S / 1000000000) := by
    rw [Nat.pow_succ, Nat.mul_assoc, ← Nat.mul_add, Nat.mod_add_div]
  have h3 : 1000000000 ^ k * S = 1000000000 ^ k * a * m + 1000000000 ^ k * c := by rw [hS, Nat.mul_add, Nat.mul_assoc]
  rw [Nat.add_mul]
  omega
theorem small_end {o : List Nat} {k c T m : Nat} (hp : k < o.length) (h0 : o[k] = 0) (h : nv o + 1000000000 ^ k * c = T * m) : nv (o.set k c) = T * m := by
  have h1 := nv_set o k c hp
  rw [h0, Nat.mul_zero, Nat.add_zero] at h1
  omega
theorem nv_drop_set (o : List Nat) (j v : Nat) (hj : j < o.length) : nv ((o.set j v).drop j) = v + 1000000000 * nv (o.drop (j + 1)) := by
  rw [List.drop_eq_getElem_cons (by simpa using hj), nv]
  congr 1
  · simp
  · congr 2
    rw [List.drop_set_of_lt (by omega)]
/-- One step of a division by a small number. -/
theorem divs_step {xa o : List Nat} {j r S m : Nat} (hj : j < xa.length) (hj' : j < o.length) (h : nv (xa.drop (j + 1)) = m * nv (o.drop (j + 1)) + r) (hS : S = r * 1000000000 + xa[j]) :
    nv (xa.drop j) = m * nv ((o.set j (S / m)).drop j) + S % m := by
  rw [nv_drop xa j hj, nv_drop_set o j _ hj', h, Nat.mul_add, Nat.mul_add]
  have h1 := Nat.div_add_mod S m
  have h2 : 1000000000 * (m * nv (o.drop (j + 1))) = m * (1000000000 * nv (o.drop (j + 1))) := by rw [Nat.mul_left_comm]
  omega
theorem divs_lt {r a m : Nat} (hr : r < m) (ha : a < 1000000000) : (r * 1000000000 + a) / m < 1000000000 := by
  rw [Nat.div_lt_iff_lt_mul (by omega)]
  have : (r + 1) * 1000000000 ≤ m * 1000000000 := Nat.mul_le_mul (by omega) (Nat.le_refl _)
  omega
theorem divs_end {x q r m : Nat} (h : x = m * q + r) (hr : r < m) : q = x / m ∧ r = x % m := by
  subst h
  constructor
  · rw [Nat.mul_add_div (by omega), Nat.div_eq_of_lt hr, Nat.add_zero]
  · rw [Nat.mul_add_mod, Nat.mod_eq_of_lt hr]
end Go.Proofs.YtefiapjfiojaoaaDoor

/-
  Natural numbers in memory: slices of limbs.
-/
namespace Go.Proofs.YtefiapjfiojaoaaDoor
open Go.RowKit

def zs (ns : List Nat) : List Int := ns.map fun (n : Nat) => (n : Int)
@[simp] theorem zs_length (ns : List Nat) : (zs ns).length = ns.length := by simp [zs]
theorem zs_append (a b : List Nat) : zs (a ++ b) = zs a ++ zs b := by simp [zs]
theorem zs_take (a : List Nat) (k : Nat) : zs (a.take k) = (zs a).take k := by simp [zs, List.map_take]

theorem zs_one (xs : List Nat) (n : Nat) {z : Int} (h : z = n) : zs (xs ++ [n]) = zs xs ++ [z] := by simp [zs, h]
theorem SI.nat {w : World} {B : Nat} {A : Option Addr} {ns : List Nat} (h : SI w B .u32 A (zs ns)) {k : Nat} (hk : k < ns.length) : ∃ ad, A = some ad ∧ ad.block < B ∧ w.cell? (ad.add k) = some (.int .u32 (ns[k] : Int)) := by
  obtain ⟨ad, e, hb, hc⟩ := h.at_ (k := k) (by simpa using hk)
  exact ⟨ad, e, hb, by rw [hc]; simp [zs]⟩

/-- The slice at A, of ln x elements, holds the canonical limbs of x. -/
def NS (w : World) (A : Option Addr) (x : Nat) : Prop := SI w w.heap.size .u32 A (zs (digs x))
theorem NS.up {w w' : World} {A : Option Addr} {x : Nat} (h : NS w A x) (hu : Up w w') : NS w' A x := SI.up h hu
theorem NS.zero {w : World} {A : Option Addr} : NS w A 0 := by unfold NS; rw [digs_zero]; exact SI.nil_

/-- A call returns the canonical limbs of x, and writes nothing that was there. -/
def RetN (w0 : World) (x : Nat) (e : Ending) (w' : World) : Prop := ∃ A c, e = .returned (.slice A (ln x) c) ∧ ln x ≤ c ∧ c ≤ 9223372036854775807 ∧ NS w' A x ∧ Up w0 w'

theorem RetN.nil {w0 w' : World} (h : Up w0 w') : RetN w0 0 (.returned (.slice none 0 0)) w' := ⟨none, 0, by rw [ln_zero], by rw [ln_zero]; omega, by omega, NS.zero, h⟩

theorem tabN : IntTab Tryd.prog 38 25 .u32 := by
  have h : (Tryd.prog.info? 25).map (fun i => (i.zero, i.size, i.bytes)) = some (some (.int .u32 0), 1, 4) := by kernel_rfl
  obtain ⟨i0, hi, hz0, hz1, hz2⟩ := info_parts h
  exact ⟨Tryd.underlying38, Tryd.underlying25, i0, hi, hz0, hz1, by omega⟩
theorem tabU : IntTab Tryd.prog 22 25 .u32 := by
  have h : (Tryd.prog.info? 25).map (fun i => (i.zero, i.size, i.bytes)) = some (some (.int .u32 0), 1, 4) := by kernel_rfl
  obtain ⟨i0, hi, hz0, hz1, hz2⟩ := info_parts h
  exact ⟨Tryd.underlying22, Tryd.underlying25, i0, hi, hz0, hz1, by omega⟩

/-- Block g is the limbs ns, and nothing else. -/
def BN (w : World) (g : Nat) (ns : List Nat) : Prop := Blk w g 25 ((zs ns).map (Value.int .u32)).toArray
theorem BN.zeros {w : World} {g n : Nat} (h : Blk w g 25 ((List.replicate n (0 : Int)).map (Value.int .u32)).toArray) : BN w g (List.replicate n 0) := by
  unfold BN zs; rw [List.map_replicate]; exact h
theorem BN.lt {w : World} {g : Nat} {ns : List Nat} (h : BN w g ns) : g < w.heap.size := Blk.lt h
theorem BN.cell {w : World} {g : Nat} {ns : List Nat} (h : BN w g ns) {k : Nat} (hk : k < ns.length) : w.cell? ⟨g, k, none⟩ = some (.int .u32 (ns[k] : Int)) := by
  rw [Blk.cell h k]; simp [zs, hk]
theorem BN.frozen {w : World} {g : Nat} {ns : List Nat} (h : BN w g ns) (k : Nat) : w.frozen? ⟨g, k, none⟩ = false := Blk.frozen h k
theorem BN.si {w : World} {g : Nat} {ns : List Nat} (h : BN w g ns) : SI w w.heap.size .u32 (some ⟨g, 0, none⟩) (zs ns) := SI.blk _ h h.lt
theorem BN.set_ {w : World} {g : Nat} {ns : List Nat} (h : BN w g ns) (k n : Nat) {z : Int} (hz : z = n) : BN (w.setCell ⟨g, k, none⟩ (.int .u32 z)) g (ns.set k n) := by
  have := Blk.set_ h k (.int .u32 z)
  unfold BN
  rw [show ((zs (ns.set k n)).map (Value.int .u32)).toArray = ((zs ns).map (Value.int .u32)).toArray.setIfInBounds k (.int .u32 z) from by
    simp [zs, hz]]
  exact this
/-- A window of a block. -/
theorem BN.mid {w : World} {g : Nat} {pre us post : List Nat} (h : BN w g (pre ++ us ++ post)) {i : Nat} (hi : i < us.length) : w.cell? ⟨g, pre.length + i, none⟩ = some (.int .u32 (us[i] : Int)) := by
  rw [h.cell (k := pre.length + i) (by simp; omega)]
  simp [hi]
theorem BN.setMid {w : World} {g : Nat} {pre us post : List Nat} (h : BN w g (pre ++ us ++ post)) (i n : Nat) (hi : i < us.length) {z : Int} (hz : z = n) : BN (w.setCell ⟨g, pre.length + i, none⟩ (.int .u32 z)) g (pre ++ us.set i n ++ post) := by
  have := h.set_ (pre.length + i) n hz
  rwa [List.append_assoc, List.set_append_right _ _ (by omega), Nat.add_sub_cancel_left, List.set_append_left _ _ (by omega), ← List.append_assoc] at this
theorem BN.far {w : World} {g : Nat} {ns : List Nat} (h : BN w g ns) {p : Addr} (hp : g ≠ p.block) (u : Value) : BN (w.setCell p u) g ns := Blk.far h hp u
theorem BN.drew {w : World} {g : Nat} {ns : List Nat} (h : BN w g ns) : BN w.drew g ns := h
theorem BN.drewN {w : World} {g : Nat} {ns : List Nat} (h : BN w g ns) (n : Nat) : BN (w.drewN n) g ns := h
theorem BN.up {w w' : World} {g : Nat} {ns : List Nat} (h : BN w g ns) (hu : Up w w') : BN w' g ns := Blk.up h hu

theorem only_drewN {a w : World} {row : Option Nat} (h : a.grownBy w row) (n : Nat) : a.grownBy (w.drewN n) row := ⟨h.os, h.tape, h.output, h.size, h.block⟩
theorem only_setCell {a w : World} {g : Nat} (h : a.grownBy w (some g)) {p : Addr} (hp : p.block = g) (u : Value) : a.grownBy (w.setCell p u) (some g) :=
  ⟨h.os, h.tape, h.output, by simpa [World.setCell] using h.size, fun i hi hne => (Below.heap_setCell w p u i (by rintro rfl; exact hne (by rw [hp]))).trans (h.block i hi hne)⟩
theorem BN.only {a w : World} {g g' : Nat} {ns : List Nat} (h : BN a g ns) (ho : a.grownBy w (some g')) (hne : g ≠ g') : BN w g ns := (ho.block g h.lt (by simpa using hne)).trans h
end Go.Proofs.YtefiapjfiojaoaaDoor

/-
  The contracts of rational.nat.trim, rational.normal.
-/
namespace Go.Proofs.YtefiapjfiojaoaaDoor
open Go.RowKit

set_option maxHeartbeats 1600000 in
/-- trim cuts the zeros at the end off: the length is that of the canonical limbs. -/
theorem trim_any (A : Option Addr) (cap : Nat) (ns : List Nat) (B : Nat) (w : World) (hr : SI w B .u32 A (zs ns)) (hc : ns.length ≤ cap) (hm : cap ≤ 9223372036854775807) (hlt : ∀ a ∈ ns, a < 1000000000) :
    Calls Tryd.prog 38 #[.slice A ns.length cap] w fun e w' => e = .returned (.slice A (ln (nv ns)) cap) ∧ w = w' := by
  have HLT := Lib.hid hlt
  clear hlt
  go_enter Tryd.func38, Tryd.ntmps38
  go_wp2_with fail
  go_loop [3] (fun i => ∃ k : Nat, k ≤ ns.length ∧ i = .int .i64 k ∧ ∀ j (hj : j < ns.length), k ≤ j → ns[j] = 0) (fun i => (intOf i).toNat)
  case atStart => exact ⟨ns.length, Nat.le_refl _, rfl, fun j hj h => absurd hj (by omega)⟩
  case round =>
    obtain ⟨k, hk, rfl, h0⟩ := hrel
    by_cases hk0 : k = 0
    · subst hk0
      have e := digs_trim HLT.out 0 hk h0 (.inl rfl)
      have hz : ln (nv ns) = 0 := by simp [ln, e]
      have HZ := Lib.hid hz
      clear h0 e hz
      go_wp2_with fail
      go_ret
      rw [HZ.out]
      exact ⟨rfl, rfl⟩
    · obtain ⟨m, rfl⟩ : ∃ m, k = m + 1 := ⟨k - 1, by omega⟩
      obtain ⟨ad, rfl, had, hcell⟩ := hr.nat (k := m) (by omega)
      by_cases hz : ns[m] = 0
      · rw [hz] at hcell
        have H0 : Hid (∀ j (hj : j < ns.length), m ≤ j → ns[j] = 0) := fun j hj h => by
          by_cases e : j = m
          · subst e; exact hz
          · exact h0 j hj (by omega)
        clear h0 hz
        have kk : ((m + 1 : Nat) : Int) - 1 = (m : Int) := by omega
        go_wp2_with fail
        go_round
        case rel => exact ⟨m, by omega, rfl, H0.out⟩
        case measure => simp [intOf]
      · have e := digs_trim HLT.out (m + 1) hk h0 (.inr ⟨by omega, by simpa using hz⟩)
        have hl : ln (nv ns) = m + 1 := by rw [ln, e, List.length_take]; omega
        have HL := Lib.hid hl
        obtain ⟨z, hzz⟩ : ∃ z, z = ns[m] := ⟨_, rfl⟩
        rw [← hzz] at hcell hz
        have hb : ((z : Int) == 0) = false := by simp <;> omega
        clear h0 e hl hzz hz
        have kk : ((m + 1 : Nat) : Int) - 1 = (m : Int) := by omega
        have kc : ((m + 1 : Nat) : Int) ≤ cap := by omega
        go_wp2_with fail
        go_ret
        rw [HL.out]
        exact ⟨rfl, rfl⟩

/-- What trim leaves reads as the canonical limbs. -/
theorem trim_reads {w : World} {B : Nat} {A : Option Addr} {ns : List Nat} (h : SI w B .u32 A (zs ns)) (hlt : ∀ a ∈ ns, a < 1000000000) : SI w B .u32 A (zs (digs (nv ns))) ∧ ln (nv ns) ≤ ns.length := by
  have key : ∃ n, n ≤ ns.length ∧ (∀ j (hj : j < ns.length), n ≤ j → ns[j] = 0) ∧ (n = 0 ∨ ∃ h : n - 1 < ns.length, ns[n - 1] ≠ 0) := by
    suffices H : ∀ k, k ≤ ns.length → (∀ j (hj : j < ns.length), k ≤ j → ns[j] = 0) → ∃ n, n ≤ ns.length ∧ (∀ j (hj : j < ns.length), n ≤ j → ns[j] = 0) ∧ (n = 0 ∨ ∃ h : n - 1 < ns.length, ns[n - 1] ≠ 0) from
      H ns.length (Nat.le_refl _) (fun j hj h => absurd hj (by omega))
    intro k
    induction k with
    | zero => exact fun hk h0 => ⟨0, hk, h0, .inl rfl⟩
    | succ k ih =>
      intro hk h0
      by_cases e : ns[k]'(by omega) = 0
      · refine ih (by omega) (fun j hj h => ?_)
        by_cases e' : j = k
        · subst e'; exact e
        · exact h0 j hj (by omega)
      · exact ⟨k + 1, hk, h0, .inr ⟨by omega, by simpa using e⟩⟩
  obtain ⟨n, h1, h2, h3⟩ := key
  have e := digs_trim hlt n h1 h2 h3
  rw [e, ln, e, zs_take]
  exact ⟨h.take n, by rw [List.length_take]; omega⟩

theorem carry_lt {a c : Nat} (ha : a < 4294967296) (hc : c ≤ 4) : (a + c) / 1000000000 ≤ 4 := by omega

set_option maxHeartbeats 3200000 in
theorem normal_any (A : Option Addr) (cap : Nat) (ns : List Nat) (B : Nat) (w : World) (hr : SI w B .u32 A (zs ns)) (hB : B ≤ w.heap.size) (h32 : ∀ a ∈ ns, a < 4294967296) (hlen : ns.length ≤ 17179869184) :
    Calls Tryd.prog 37 #[.slice A ns.length cap] w (RetN w (nv ns)) := by
  have H32 := Lib.hid h32
  clear h32
  go_enter Tryd.func37, Tryd.ntmps37
  go_wp2_with (first
    | (at_make; refine wpList_make0 rfl (.const (.int .i64 0)) (.tmp 9) 38 rfl w.heap.size 25 .u32 tabN .i64 .i64 _ (ns.length + 1) rfl rfl (by omega) (by omega) (Nat.le_refl _) ?_; intro w1 hO1 hU1))
  have HO1 := Lib.hid hO1
  clear hO1
  go_loopw [3, 4, 13] (fun v c i wr => ∃ (k : Nat) (cy : Nat) (xs : List Nat), k ≤ ns.length ∧ i = .int .i64 k ∧ c = .int .u64 cy ∧ cy ≤ 4 ∧ OI wr w.heap.size 25 .u32 v (zs xs) ∧ xs.length = k ∧ (∀ a ∈ xs, a < 1000000000) ∧
      nv xs + 1000000000 ^ k * cy = nv (ns.take k) ∧ Up w wr) (fun _ _ i _ => ns.length - (intOf i).toNat)
  case atStart => exact ⟨0, 0, [], Nat.zero_le _, rfl, rfl, by omega, HO1.out, rfl, by simp, by simp [nv], hU1⟩
  case round =>
    obtain ⟨k, cy, xs, hk, rfl, rfl, hcy, hO, hxl, hxs, hnv, hU⟩ := hrel
    by_cases hlt : k < ns.length
    · obtain ⟨ad, rfl, had, hcell⟩ := (hr.below (hU.mono hB)).nat hlt
      have h32 := H32.out ns[k] (List.getElem_mem hlt)
      obtain ⟨z, hz⟩ : ∃ z, z = ns[k] := ⟨_, rfl⟩
      rw [← hz] at hcell h32
      have hst := carry_step _ _ z cy (z + cy) k hnv rfl
      rw [hz, ← nv_take ns k hlt, ← hz] at hst
      have HST := Lib.hid hst
      have HXL := Lib.hid hxl
      have HXS := Lib.hid hxs
      have hcl := carry_lt h32 hcy
      have HO := Lib.hid hO
      have hus := hU.size
      clear hz hst hnv hxl hxs hO
      go_wp2_with (first
        | (at_builtin; go_must (refine wpList_append_ints rfl (.tmp 23) (.tmp 27) 38 rfl w.heap.size 25 .u32 tabN u3 (zs xs) rfl (HO.out.alloc _) (wr.heap.size + 1) (some ⟨wr.heap.size, 0, none⟩) 1 [((z : Int) + cy) % 1000000000] rfl (by exact SI.blk _ (Blk.new wr 25 _) (by simp)) (by have := HXL.out; simp; omega) (by simp; omega) ?_; intro v2 w2 hA2)))
      go_roundw
      case rel =>
        refine ⟨k + 1, (z + cy) / 1000000000, xs ++ [(z + cy) % 1000000000], by omega, by go_num, by go_num, hcl, ?_, by rw [List.length_append, HXL.out]; rfl, ?_, ?_, ?_⟩
        · rw [zs_one xs _ (z := ((z : Int) + cy) % 1000000000) (by omega)]; exact hA2.own
        · intro a ha
          rcases List.mem_append.1 ha with ha | ha
          · exact HXS.out a ha
          · simp at ha; omega
        · rw [nv_snoc, HXL.out]; exact HST.out
        · exact hA2.below (hU.alloc hus _) (HO.out.alloc _) (by simp; omega)
      case measure => simp [intOf]; omega
    · have hk' : k = ns.length := by omega
      subst hk'
      rw [List.take_length] at hnv
      have hus := hU.size
      have HO := Lib.hid hO
      have HXL := Lib.hid hxl
      have hxl1 : xs.length ≤ 17179869184 := by omega
      have HXS := Lib.hid hxs
      have HNV := Lib.hid hnv
      clear hnv hxl hxs hO
      by_cases hc0 : cy = 0
      · subst hc0
        have hnv2 : nv xs = nv ns := by have := HNV.out; simpa using this
        obtain ⟨A2, c2, hv2, hc2, hm2, sA2, hO2⟩ := HO.out.form
        rw [zs_length] at hv2 hc2
        obtain ⟨T1, T2⟩ := trim_reads sA2 HXS.out
        rw [hnv2] at T1 T2
        have HT := trim_any A2 c2 xs wr.heap.size wr sA2 hc2 (by simpa [maxLen] using hm2) HXS.out
        rw [hnv2] at HT
        have H1 := Lib.hid HT
        have H2 := Lib.hid T1
        have H3 := Lib.hid (And.intro hm2 (Nat.le_trans T2 hc2))
        have hh : decide ((0 : Int) < 0) = false := by simp
        rw [hv2]
        clear HT T1 T2 sA2 hnv2 hO2 hm2 hc2
        go_wp2_with fail
        refine H1.out.mono ?_
        rintro e w2 ⟨rfl, rfl⟩
        go_wp2_with fail
        go_ret
        exact ⟨A2, c2, rfl, H3.out.2, by simpa [maxLen] using H3.out.1, H2.out, hU⟩
      · have hc1 : decide ((0 : Int) < cy) = true := by simp; omega
        go_wp2_with (first
          | (at_builtin; go_must (refine wpList_append_ints rfl (.tmp 34) (.tmp 37) 38 rfl w.heap.size 25 .u32 tabN u3 (zs xs) rfl (HO.out.alloc _) (wr.heap.size + 1) (some ⟨wr.heap.size, 0, none⟩) 1 [(cy : Int)] rfl (by exact SI.blk _ (Blk.new wr 25 _) (by simp)) (by simp; omega) (by simp; omega) ?_; intro v2 w2 hA2; obtain ⟨A2, c2, hv2, hc2, hm2, sA2, hO2⟩ := hA2.own.form; rw [hv2])))
        rw [← zs_one xs cy rfl] at sA2
        have hall : ∀ a ∈ xs ++ [cy], a < 1000000000 := by
          intro a ha
          rcases List.mem_append.1 ha with ha | ha
          · exact HXS.out a ha
          · simp at ha; omega
        have hnv2 : nv (xs ++ [cy]) = nv ns := by rw [nv_snoc, HXL.out]; exact HNV.out
        obtain ⟨T1, T2⟩ := trim_reads sA2 hall
        have hc3 : (xs ++ [cy]).length ≤ c2 := by simpa [zs] using hc2
        have HT := trim_any A2 c2 (xs ++ [cy]) w2.heap.size w2 sA2 hc3 (by simpa [maxLen] using hm2) hall
        rw [hnv2] at T1 T2 HT
        rw [List.length_append] at HT
        refine HT.mono ?_
        have H2 := Lib.hid T1
        have H3 := Lib.hid (And.intro hm2 (Nat.le_trans T2 hc3))
        have hb2 : Up w w2 := hA2.below (hU.alloc hus _) (HO.out.alloc _) (by simp; omega)
        clear HT T1 T2 hnv2 hO2 hm2 hc2 hc3 hA2 sA2 hall
        rintro e w3 ⟨rfl, rfl⟩
        go_wp2_with fail
        go_ret
        exact ⟨A2, c2, rfl, H3.out.2, by simpa [maxLen] using H3.out.1, H2.out, hb2⟩
end Go.Proofs.YtefiapjfiojaoaaDoor

/-
  The contracts of rational.nat.isOne, rational.nat.word, rational.fromWord, rational.compare.
-/
namespace Go.Proofs.YtefiapjfiojaoaaDoor
open Go.RowKit

set_option maxHeartbeats 1600000 in
theorem isOne_any (A : Option Addr) (cap x : Nat) (w : World) (hr : NS w A x) (hl : ln x ≤ 17592186044416) :
    Calls Tryd.prog 29 #[.slice A (ln x) cap] w fun e w' => e = .returned (.bool (x == 1)) ∧ w = w' := by
  by_cases h1 : x = 1
  · subst h1
    have e : digs 1 = [1] := digs_small (by omega) (by omega)
    obtain ⟨ad, rfl, had, hcell⟩ := SI.nat (k := 0) hr (by rw [e]; simp)
    have e2 : ln 1 = 1 := by rw [ln, e]; rfl
    rw [e2]
    simp [e, Addr.add] at hcell
    clear e e2 hl
    go_enter Tryd.func29, Tryd.ntmps29
    go_wp2_with fail
    go_ret
    exact ⟨rfl, rfl⟩
  · have hx1 : (x == 1) = false := by simpa using h1
    by_cases hl1 : ln x = 1
    · have hne : x ≠ 0 := fun e => by rw [e, ln_zero] at hl1; cases hl1
      have hlt := lt_pow_ln x
      rw [hl1] at hlt
      have e : digs x = [x] := digs_small hne (by omega)
      obtain ⟨ad, rfl, had, hcell⟩ := SI.nat (k := 0) hr (by rw [e]; simp)
      rw [hl1]
      simp [e, Addr.add] at hcell
      have hb : ((x : Int) == 1) = false := by simp; omega
      have HX := Lib.hid hx1
      clear e hl1 hx1 h1 hne hl
      go_enter Tryd.func29, Tryd.ntmps29
      go_wp2_with fail
      go_ret
      rw [HX.out]
      exact ⟨rfl, rfl⟩
    · have hb : (((ln x : Nat) : Int) == 1) = false := by simp; omega
      have HX := Lib.hid hx1
      clear hx1 h1 hl1
      go_enter Tryd.func29, Tryd.ntmps29
      go_wp2_with fail
      go_ret
      rw [HX.out]
      exact ⟨rfl, rfl⟩

set_option maxHeartbeats 1600000 in
theorem fromWord_any (n : Nat) (w : World) (hn : n < 18446744073709551616) : Calls Tryd.prog 39 #[.int .u64 n] w (RetN w n) := by
  have hl3 : ln n ≤ 3 := ln_le.2 (by omega)
  go_enter Tryd.func39, Tryd.ntmps39
  go_wp2_with fail
  go_loopw [0, 3] (fun m v wr => ∃ (k : Nat) (xs : List Nat), m = .int .u64 k ∧ k ≤ n ∧ OI wr w.heap.size 25 .u32 v (zs xs) ∧ digs n = xs ++ digs k ∧ Up w wr) (fun m _ _ => (intOf m).toNat)
  case atStart => exact ⟨n, [], rfl, Nat.le_refl _, OI.nil_, rfl, Up.refl _⟩
  case round =>
    obtain ⟨k, xs, rfl, hkn, hO, hd, hU⟩ := hrel
    have hxl : xs.length ≤ 3 := by
      have : (xs ++ digs k).length ≤ 3 := by rw [← hd]; exact hl3
      rw [List.length_append] at this; omega
    have hus := hU.size
    have HO := Lib.hid hO
    by_cases hk : k = 0
    · subst hk
      rw [digs_zero, List.append_nil] at hd
      obtain ⟨A2, c2, hv2, hc2, hm2, sA2, hO2⟩ := HO.out.form
      rw [zs_length] at hv2 hc2
      rw [← hd] at sA2 hv2 hc2
      rw [show (digs n).length = ln n from rfl] at hv2 hc2
      have H2 := Lib.hid sA2
      have H3 := Lib.hid (And.intro hm2 hc2)
      rw [hv2]
      clear hd hO sA2 hO2 hm2 hc2
      go_wp2_with fail
      go_ret
      exact ⟨A2, c2, rfl, H3.out.2, by simpa [maxLen] using H3.out.1, H2.out, hU⟩
    · have hd2 := Lib.hid (digs_step hd hk)
      have hkp : (0 : Int) < k := by omega
      have hk64 : (k : Int) ≤ 18446744073709551615 := by omega
      clear hd hO hk
      go_wp2_with (first
        | (at_builtin; go_must (refine wpList_append_ints rfl (.tmp 8) (.tmp 12) 38 rfl w.heap.size 25 .u32 tabN u3 (zs xs) rfl (HO.out.alloc _) (wr.heap.size + 1) (some ⟨wr.heap.size, 0, none⟩) 1 [(k : Int) % 1000000000] rfl (by exact SI.blk _ (Blk.new wr 25 _) (by simp)) (by simp; omega) (by simp; omega) ?_; intro v2 w2 hA2)))
      go_roundw
      case rel =>
        refine ⟨k / 1000000000, xs ++ [k % 1000000000], by go_num, by omega, ?_, hd2.out, ?_⟩
        · rw [zs_one xs _ (z := (k : Int) % 1000000000) (by omega)]; exact hA2.own
        · exact hA2.below (hU.alloc hus _) (HO.out.alloc _) (by simp; omega)
      case measure => simp [intOf]; omega
end Go.Proofs.YtefiapjfiojaoaaDoor

/-
  The contracts of rational.nat.word, rational.compare.
-/
namespace Go.Proofs.YtefiapjfiojaoaaDoor
open Go.RowKit

/-- A number and whether it fits. -/
def wordV (x : Nat) : Nat × Bool := if x < 18446744073709551616 then (x, true) else (0, false)
theorem wordV_yes {x : Nat} (h : x < 18446744073709551616) : wordV x = (x, true) := by rw [wordV, if_pos h]
theorem wordV_no {x : Nat} (h : 18446744073709551616 ≤ x) : wordV x = (0, false) := by rw [wordV, if_neg (by omega)]
theorem word_big {ns : List Nat} {k w a : Nat} (hk : k < ns.length) (hw : w = nv (ns.drop (k + 1))) (ha : a = ns[k]) (h : (18446744073709551615 - a) / 1000000000 < w) (ha' : a < 1000000000) : 18446744073709551616 ≤ nv ns := by
  have h1 := nv_drop_le ns k (by omega)
  rw [nv_drop ns k hk, ← hw, ← ha] at h1
  omega

set_option maxHeartbeats 1600000 in
theorem word_any (A : Option Addr) (cap x : Nat) (w : World) (hr : NS w A x) (hl : ln x ≤ 17592186044416) :
    Calls Tryd.prog 53 #[.slice A (ln x) cap] w fun e w' => e = .returned (.tuple #[.int .u64 (wordV x).1, .bool (wordV x).2]) ∧ w = w' := by
  unfold NS at hr
  have hnx := nv_digs x
  have hlt := digs_lt x
  have hln : (digs x).length = ln x := rfl
  obtain ⟨ns, hns⟩ : ∃ ns, ns = digs x := ⟨_, rfl⟩
  rw [← hns] at hr hnx hlt hln
  rw [← hln] at hl ⊢
  clear hns hln
  have HX := Lib.hid hnx
  have HLT := Lib.hid hlt
  clear hnx hlt
  go_enter Tryd.func53, Tryd.ntmps53
  go_wp2_with fail
  go_loop [4, 9] (fun v i => ∃ (k n : Nat), k ≤ ns.length ∧ i = .int .i64 k ∧ v = .int .u64 n ∧ n < 18446744073709551616 ∧ n = nv (ns.drop (ns.length - k))) (fun _ i => ns.length - (intOf i).toNat)
  case atStart => exact ⟨0, 0, Nat.zero_le _, rfl, rfl, by omega, by simp [nv]⟩
  case round =>
    obtain ⟨k, n, hk, rfl, rfl, hn, hnv⟩ := hrel
    by_cases hlt : k < ns.length
    · obtain ⟨j, hj⟩ : ∃ j, j = ns.length - 1 - k := ⟨_, rfl⟩
      have hjl : j < ns.length := by omega
      obtain ⟨ad, rfl, had, hcell⟩ := hr.nat hjl
      have ha := HLT.out ns[j] (List.getElem_mem hjl)
      rw [show ns.length - k = j + 1 from by omega] at hnv
      have hbig := word_big hjl hnv rfl
      have hdr := nv_drop ns j hjl
      rw [← hnv] at hdr
      obtain ⟨a, haa⟩ : ∃ a, a = ns[j] := ⟨_, rfl⟩
      rw [← haa] at hcell ha hbig hdr
      have HB := Lib.hid hbig
      have HD := Lib.hid hdr
      have hji : (ns.length : Int) - 1 - k = (j : Int) := by omega
      have HJ := Lib.hid hj
      clear haa hbig hdr hnv hj
      by_cases hov : (18446744073709551615 - a) / 1000000000 < n
      · have hv := wordV_no (HB.out hov ha)
        rw [HX.out] at hv
        have HV := Lib.hid hv
        have hov2 : decide ((18446744073709551615 - (a : Int)) / 1000000000 < n) = true := by simp; omega
        clear hv hov
        go_wp2_with fail
        go_ret2
        rw [HV.out]
        exact ⟨rfl, rfl⟩
      · have hov2 : decide ((18446744073709551615 - (a : Int)) / 1000000000 < n) = false := by simp; omega
        have hs1 : (n : Int) * 1000000000 + a ≤ 18446744073709551615 := by omega
        have hs2 : n * 1000000000 + a < 18446744073709551616 := by omega
        clear hov
        go_wp2_with fail
        go_round
        case rel =>
          refine ⟨k + 1, n * 1000000000 + a, by omega, by go_num, by go_num, hs2, ?_⟩
          rw [show ns.length - (k + 1) = j from by have := HJ.out; omega, HD.out]
          omega
        case measure => simp [intOf]; omega
    · have hk' : k = ns.length := by omega
      rw [hk', Nat.sub_self, List.drop_zero, HX.out] at hnv
      have hv := wordV_yes (x := x) (by omega)
      rw [← hnv] at hv
      have HV := Lib.hid hv
      clear hv
      subst hk'
      subst hnv
      go_wp2_with fail
      go_ret2
      rw [HV.out]
      exact ⟨rfl, rfl⟩

set_option maxHeartbeats 3200000 in
theorem compare_any (A : Option Addr) (cap x : Nat) (B : Option Addr) (dap y : Nat) (w : World) (ha : NS w A x) (hb : NS w B y) (hla : ln x ≤ 17592186044416) (_hlb : ln y ≤ 17592186044416) :
    Calls Tryd.prog 26 #[.slice A (ln x) cap, .slice B (ln y) dap] w fun e w' => e = .returned (.int .i64 (cmpN x y)) ∧ Up w w' := by
  by_cases hlen : ln x = ln y
  · unfold NS at ha hb
    have hnx := nv_digs x
    have hny := nv_digs y
    have hltx := digs_lt x
    have hlty := digs_lt y
    have hlnx : (digs x).length = ln x := rfl
    have hlny : (digs y).length = ln y := rfl
    obtain ⟨xa, has⟩ : ∃ ns, ns = digs x := ⟨_, rfl⟩
    obtain ⟨xb, hbs⟩ : ∃ ns, ns = digs y := ⟨_, rfl⟩
    rw [← has] at ha hnx hltx hlnx
    rw [← hbs] at hb hny hlty hlny
    rw [← hlnx] at hla hlen ⊢
    rw [← hlny] at hlen ⊢
    clear has hbs hlnx hlny
    have HX := Lib.hid hnx
    have HY := Lib.hid hny
    have HLX := Lib.hid hltx
    have HLY := Lib.hid hlty
    have HE := Lib.hid hlen
    have he1 : xb.length ≤ xa.length := by omega
    have he2 : xa.length ≤ xb.length := by omega
    have hne : (((xa.length : Nat) : Int) != (xb.length : Nat)) = false := by simp; omega
    have hne2 : (xa.length != xb.length) = false := by simp; omega
    clear hnx hny hltx hlty hlen
    go_enter Tryd.func26, Tryd.ntmps26
    go_wp2_with fail
    go_loopw [5] (fun i wr => ∃ k : Nat, k ≤ xa.length ∧ i = .int .i64 ((k : Int) - 1) ∧ xa.drop k = xb.drop k ∧ Up w wr) (fun i _ => (intOf i + 1).toNat)
    case atStart => exact ⟨xa.length, Nat.le_refl _, rfl, by rw [List.drop_length, HE.out, List.drop_length], Up.refl _⟩
    case round =>
      obtain ⟨k, hk, rfl, heq, hU⟩ := hrel
      by_cases hk0 : k = 0
      · subst hk0
        rw [List.drop_zero, List.drop_zero] at heq
        have hxy : x = y := by rw [← HX.out, ← HY.out, heq]
        have HC := Lib.hid (cmpN_eq hxy)
        clear heq hxy
        go_wp2_with fail
        go_ret
        rw [HC.out]
        exact ⟨rfl, hU⟩
      · obtain ⟨m, rfl⟩ : ∃ m, k = m + 1 := ⟨k - 1, by omega⟩
        have hma : m < xa.length := by omega
        have hmb : m < xb.length := by omega
        obtain ⟨ad, rfl, had, hca⟩ := (ha.below hU).nat hma
        obtain ⟨ae, rfl, hae, hcb⟩ := (hb.below hU).nat hmb
        have h1 := nv_lt_of HLX.out hma hmb heq
        have h2 := nv_lt_of HLY.out hmb hma heq.symm
        have h3 : xa[m] = xb[m] → xa.drop m = xb.drop m := fun e => by rw [List.drop_eq_getElem_cons hma, List.drop_eq_getElem_cons hmb, e, heq]
        rw [HX.out, HY.out] at h1
        rw [HX.out, HY.out] at h2
        have H1 := Lib.hid h1
        have H2 := Lib.hid h2
        have H3 := Lib.hid h3
        obtain ⟨p, hp⟩ : ∃ p, p = xa[m] := ⟨_, rfl⟩
        obtain ⟨q, hq⟩ : ∃ q, q = xb[m] := ⟨_, rfl⟩
        rw [← hp] at hca H1 H2 H3
        rw [← hq] at hcb H1 H2 H3
        have kk : ((m + 1 : Nat) : Int) - 1 = (m : Int) := by omega
        have ki1 : (0 : Int) ≤ m := by omega
        have ki2 : (m : Int) < xa.length := by omega
        have ki3 : (m : Int) < xb.length := by omega
        have ki4 : ¬ (m : Int) - 1 + 1 < 0 := by omega
        rw [kk]
        clear hp hq h1 h2 h3 heq kk hk0
        rcases Nat.lt_trichotomy p q with hpq | hpq | hpq
        · have HC := Lib.hid (cmpN_lt (H1.out hpq))
          have hd : decide (p < q) = true := by simp; omega
          clear hpq
          go_wp2_with fail
          go_quiet (fail)
          go_wp2_with fail
          go_ret
          rw [HC.out]
          exact ⟨rfl, below_drewN hU _⟩
        · subst hpq
          have HC := Lib.hid (H3.out rfl)
          go_wp2_with fail
          go_quiet (fail)
          go_wp2_with fail
          go_quiet (fail)
          go_wp2_with fail
          go_roundw
          case rel => exact ⟨m, by omega, by go_num, HC.out, below_drewN hU _⟩
          case measure => simp [intOf] <;> omega
        · have HC := Lib.hid (cmpN_gt (H2.out hpq))
          have hd : decide (p < q) = false := by simp; omega
          have hd2 : decide (q < p) = true := by simp; omega
          clear hpq
          go_wp2_with fail
          go_quiet (fail)
          go_wp2_with fail
          go_quiet (fail)
          go_wp2_with fail
          go_ret
          rw [HC.out]
          exact ⟨rfl, below_drewN (below_drewN hU _) _⟩
  · obtain ⟨a, haa⟩ : ∃ a, a = ln x := ⟨_, rfl⟩
    obtain ⟨b, hbb⟩ : ∃ a, a = ln y := ⟨_, rfl⟩
    have h1 : a < b → cmpN x y = -1 := fun h => cmpN_lt (lt_of_ln (by omega))
    have h2 : b < a → cmpN x y = 1 := fun h => cmpN_gt (lt_of_ln (by omega))
    rw [← haa] at hla hlen ⊢
    rw [← hbb] at hlen ⊢
    have H1 := Lib.hid h1
    have H2 := Lib.hid h2
    have hne : ((a : Int) != b) = true := by simp; omega
    have hne2 : (a != b) = true := by simp; omega
    clear h1 h2 haa hbb ha hb
    rcases Nat.lt_or_gt_of_ne hlen with h | h
    · have HC := Lib.hid (H1.out h)
      have hd : decide (a < b) = true := by simp; omega
      clear h hlen
      go_enter Tryd.func26, Tryd.ntmps26
      go_wp2_with fail
      go_ret
      rw [HC.out]
      exact ⟨rfl, Up.refl _⟩
    · have HC := Lib.hid (H2.out h)
      have hd : decide (a < b) = false := by simp; omega
      clear h hlen
      go_enter Tryd.func26, Tryd.ntmps26
      go_wp2_with fail
      go_ret
      rw [HC.out]
      exact ⟨rfl, Up.refl _⟩
end Go.Proofs.YtefiapjfiojaoaaDoor

/-
  The contract of rational.add.
-/
namespace Go.Proofs.YtefiapjfiojaoaaDoor
open Go.RowKit

set_option maxHeartbeats 3200000 in
theorem add_ge (A : Option Addr) (cap x : Nat) (B : Option Addr) (dap y : Nat) (w : World) (ha : NS w A x) (hb : NS w B y) (hla : ln x ≤ 17179869184) (hlen : ln y ≤ ln x) :
    Calls Tryd.prog 40 #[.slice A (ln x) cap, .slice B (ln y) dap] w (RetN w (x + y)) := by
  unfold NS at ha hb
  have hnx := nv_digs x
  have hny := nv_digs y
  have hltx := digs_lt x
  have hlty := digs_lt y
  have hlnx : (digs x).length = ln x := rfl
  have hlny : (digs y).length = ln y := rfl
  obtain ⟨xa, hxa⟩ : ∃ ns, ns = digs x := ⟨_, rfl⟩
  obtain ⟨xb, hxb⟩ : ∃ ns, ns = digs y := ⟨_, rfl⟩
  rw [← hxa] at ha hnx hltx hlnx
  rw [← hxb] at hb hny hlty hlny
  have hlm : xa.length ≤ ln (x + y) := by rw [hlnx]; exact ln_mono (Nat.le_add_right _ _)
  rw [← hlnx] at hla hlen ⊢
  rw [← hlny] at hlen ⊢
  clear hxa hxb hlnx hlny
  have HX := Lib.hid hnx
  have HY := Lib.hid hny
  have HLX := Lib.hid hltx
  have HLY := Lib.hid hlty
  have HLM := Lib.hid hlm
  clear hnx hny hltx hlty hlm
  have hdn : decide (xa.length < xb.length) = false := by simp; omega
  go_enter Tryd.func40, Tryd.ntmps40
  go_wp2_with (first
    | (at_make; refine wpList_make0 rfl (.const (.int .i64 0)) (.tmp 18) 38 rfl w.heap.size 25 .u32 tabN .i64 .i64 _ (xa.length + 1) rfl rfl (by omega) (by omega) (Nat.le_refl _) ?_; intro w1 hO1 hU1))
  have HO1 := Lib.hid hO1
  clear hO1
  go_loopw [5, 6, 22] (fun v c i wr => ∃ (k : Nat) (cy : Nat) (xs : List Nat), k ≤ xa.length ∧ i = .int .i64 k ∧ c = .int .u32 cy ∧ cy ≤ 1 ∧ OI wr w.heap.size 25 .u32 v (zs xs) ∧ xs.length = k ∧ (∀ a ∈ xs, a < 1000000000) ∧
      nv xs + 1000000000 ^ k * cy = nv (xa.take k) + nv (xb.take k) ∧ Up w wr) (fun _ _ i _ => xa.length - (intOf i).toNat)
  case atStart => exact ⟨0, 0, [], Nat.zero_le _, rfl, rfl, by omega, HO1.out, rfl, by simp, by simp [nv], hU1⟩
  case round =>
    obtain ⟨k, cy, xs, hk, rfl, rfl, hcy, hO, hxl, hxs, hnv, hU⟩ := hrel
    have hus := hU.size
    have hxl1 : xs.length ≤ 17179869184 := by omega
    have HXL := Lib.hid hxl
    have HXS := Lib.hid hxs
    have HO := Lib.hid hO
    by_cases hlt : k < xa.length
    · obtain ⟨ad, hAd, had, hcell⟩ := (ha.below hU).nat hlt
      subst hAd
      have ha9 := HLX.out xa[k] (List.getElem_mem hlt)
      have hta := nv_take' xa k
      have htb := nv_take' xb k
      rw [show xa.getD k 0 = xa[k] from by simp [hlt]] at hta
      obtain ⟨z, hz⟩ : ∃ z, z = xa[k] := ⟨_, rfl⟩
      rw [← hz] at hcell ha9 hta
      by_cases hlb : k < xb.length
      · obtain ⟨ae, hAe, hae, hcb⟩ := (hb.below hU).nat hlb
        subst hAe
        have hb9 := HLY.out xb[k] (List.getElem_mem hlb)
        rw [show xb.getD k 0 = xb[k] from by simp [hlb]] at htb
        obtain ⟨u, hu⟩ : ∃ u, u = xb[k] := ⟨_, rfl⟩
        rw [← hu] at hcb hb9 htb
        have hst := add_step (a := z) (b := u) hnv rfl
        have hst2 : nv xs + 1000000000 ^ k * ((z + cy + u) % 1000000000) + 1000000000 ^ (k + 1) * ((z + cy + u) / 1000000000) = nv (xa.take (k + 1)) + nv (xb.take (k + 1)) := by rw [hst, hta, htb]; omega
        have HST := Lib.hid hst2
        have hcl : (z + cy + u) / 1000000000 ≤ 1 := by omega
        have hdl : decide (k < xb.length) = true := by simp; omega
        clear hz hu hst hst2 hta htb hnv hxl hxs hO
        go_wp2_with (first
          | (at_builtin; go_must (refine wpList_append_ints rfl (.tmp 43) (.tmp 46) 38 rfl w.heap.size 25 .u32 tabN u5 (zs xs) rfl (HO.out.alloc _) (wr.heap.size + 1) (some ⟨wr.heap.size, 0, none⟩) 1 [((z : Int) + cy + u) % 1000000000] rfl (by exact SI.blk _ (Blk.new wr 25 _) (by simp)) (by simp; omega) (by simp; omega) ?_; intro v2 w2 hA2)))
        go_roundw
        case rel =>
          refine ⟨k + 1, (z + cy + u) / 1000000000, xs ++ [(z + cy + u) % 1000000000], by omega, by go_num, by go_num, hcl, ?_, by rw [List.length_append, HXL.out]; rfl, ?_, ?_, ?_⟩
          · rw [zs_one xs _ (z := ((z : Int) + cy + u) % 1000000000) (by omega)]; exact hA2.own
          · intro a ha
            rcases List.mem_append.1 ha with ha | ha
            · exact HXS.out a ha
            · simp at ha; omega
          · rw [nv_snoc, HXL.out]; exact HST.out
          · exact hA2.below (hU.alloc hus _) (HO.out.alloc _) (by simp; omega)
        case measure => simp [intOf]; omega
      · rw [show xb.getD k 0 = 0 from by simp [List.getElem?_eq_none (by omega : xb.length ≤ k)]] at htb
        have hst := add_step (a := z) (b := 0) hnv rfl
        have hst2 : nv xs + 1000000000 ^ k * ((z + cy) % 1000000000) + 1000000000 ^ (k + 1) * ((z + cy) / 1000000000) = nv (xa.take (k + 1)) + nv (xb.take (k + 1)) := by rw [Nat.add_zero] at hst; rw [hst, hta, htb]; omega
        have HST := Lib.hid hst2
        have hcl : (z + cy) / 1000000000 ≤ 1 := by omega
        have hdl : decide (k < xb.length) = false := by simp; omega
        clear hz hst hst2 hta htb hnv hxl hxs hO hlb
        go_wp2_with (first
          | (at_builtin; go_must (refine wpList_append_ints rfl (.tmp 43) (.tmp 46) 38 rfl w.heap.size 25 .u32 tabN u5 (zs xs) rfl (HO.out.alloc _) (wr.heap.size + 1) (some ⟨wr.heap.size, 0, none⟩) 1 [((z : Int) + cy) % 1000000000] rfl (by exact SI.blk _ (Blk.new wr 25 _) (by simp)) (by simp; omega) (by simp; omega) ?_; intro v2 w2 hA2)))
        go_roundw
        case rel =>
          refine ⟨k + 1, (z + cy) / 1000000000, xs ++ [(z + cy) % 1000000000], by omega, by go_num, by go_num, hcl, ?_, by rw [List.length_append, HXL.out]; rfl, ?_, ?_, ?_⟩
          · rw [zs_one xs _ (z := ((z : Int) + cy) % 1000000000) (by omega)]; exact hA2.own
          · intro a ha
            rcases List.mem_append.1 ha with ha | ha
            · exact HXS.out a ha
            · simp at ha; omega
          · rw [nv_snoc, HXL.out]; exact HST.out
          · exact hA2.below (hU.alloc hus _) (HO.out.alloc _) (by simp; omega)
        case measure => simp [intOf]; omega
    · have hk' : k = xa.length := by omega
      subst hk'
      rw [List.take_length, List.take_of_length_le (by omega), HX.out, HY.out] at hnv
      by_cases hc0 : cy = 0
      · subst hc0
        have hv : nv xs = x + y := by simpa using hnv
        have hd := digs_of_len HXS.out (by rw [hv, HXL.out]; exact HLM.out)
        rw [hv] at hd
        have hlx : xs.length = ln (x + y) := by rw [ln, hd]
        obtain ⟨A2, c2, hv2, hc2, hm2, sA2, hO2⟩ := HO.out.form
        rw [zs_length, hlx] at hv2 hc2
        rw [← hd] at sA2
        have H2 := Lib.hid sA2
        have H3 := Lib.hid (And.intro hm2 hc2)
        rw [hv2]
        clear hd hO sA2 hO2 hm2 hc2 hv hnv hlx hxl
        go_wp2_with fail
        go_ret
        exact ⟨A2, c2, rfl, H3.out.2, by simpa [maxLen] using H3.out.1, H2.out, hU⟩
      · have hc1 : decide ((0 : Int) < cy) = true := by simp; omega
        have hv : nv (xs ++ [cy]) = x + y := by rw [nv_snoc, HXL.out]; exact hnv
        have hall : ∀ a ∈ xs ++ [cy], a < 1000000000 := by
          intro a ha
          rcases List.mem_append.1 ha with ha | ha
          · exact HXS.out a ha
          · simp at ha; omega
        have hge : xa.length + 1 ≤ ln (x + y) := by
          rcases Nat.lt_or_ge xa.length (ln (x + y)) with h | h
          · exact h
          · have h1 := ln_le.1 h
            have h2 : 1000000000 ^ xa.length * 1 ≤ 1000000000 ^ xa.length * cy := Nat.mul_le_mul (Nat.le_refl _) (by omega)
            omega
        have hd := digs_of_len hall (by rw [hv, List.length_append, HXL.out]; exact hge)
        rw [hv] at hd
        have hlx : xs.length + 1 = ln (x + y) := by rw [ln, hd]; simp
        have HD := Lib.hid hd
        have HLX2 := Lib.hid hlx
        clear hd hv hall hge hlx hnv hxl
        go_wp2_with (first
          | (at_builtin; go_must (refine wpList_append_ints rfl (.tmp 51) (.tmp 53) 38 rfl w.heap.size 25 .u32 tabN u5 (zs xs) rfl (HO.out.alloc _) (wr.heap.size + 1) (some ⟨wr.heap.size, 0, none⟩) 1 [(cy : Int)] rfl (by exact SI.blk _ (Blk.new wr 25 _) (by simp)) (by simp; omega) (by simp; omega) ?_; intro v2 w2 hA2; obtain ⟨A2, c2, hv2, hc2, hm2, sA2, hO2⟩ := hA2.own.form; rw [← zs_one xs cy rfl, zs_length, List.length_append, show xs.length + [cy].length = ln (x + y) from HLX2.out] at hv2; rw [hv2])))
        go_ret
        rw [← zs_one xs cy rfl] at sA2 hc2
        rw [← HD.out] at sA2
        rw [zs_length, List.length_append, show xs.length + [cy].length = ln (x + y) from HLX2.out] at hc2
        exact ⟨A2, c2, rfl, hc2, by simpa [maxLen] using hm2, sA2, hA2.below (hU.alloc hus _) (HO.out.alloc _) (by simp; omega)⟩

set_option maxHeartbeats 3200000 in
theorem add_lt (A : Option Addr) (cap x : Nat) (B : Option Addr) (dap y : Nat) (w : World) (ha : NS w A x) (hb : NS w B y) (hla : ln x ≤ 17179869184) (hlen : ln y < ln x) :
    Calls Tryd.prog 40 #[.slice B (ln y) dap, .slice A (ln x) cap] w (RetN w (x + y)) := by
  unfold NS at ha hb
  have hnx := nv_digs x
  have hny := nv_digs y
  have hltx := digs_lt x
  have hlty := digs_lt y
  have hlnx : (digs x).length = ln x := rfl
  have hlny : (digs y).length = ln y := rfl
  obtain ⟨xa, hxa⟩ : ∃ ns, ns = digs x := ⟨_, rfl⟩
  obtain ⟨xb, hxb⟩ : ∃ ns, ns = digs y := ⟨_, rfl⟩
  rw [← hxa] at ha hnx hltx hlnx
  rw [← hxb] at hb hny hlty hlny
  have hlm : xa.length ≤ ln (x + y) := by rw [hlnx]; exact ln_mono (Nat.le_add_right _ _)
  rw [← hlnx] at hla hlen ⊢
  rw [← hlny] at hlen ⊢
  clear hxa hxb hlnx hlny
  have HX := Lib.hid hnx
  have HY := Lib.hid hny
  have HLX := Lib.hid hltx
  have HLY := Lib.hid hlty
  have HLM := Lib.hid hlm
  clear hnx hny hltx hlty hlm
  have hdn : decide (xb.length < xa.length) = true := by simp; omega
  go_enter Tryd.func40, Tryd.ntmps40
  go_wp2_with (first
    | (at_make; refine wpList_make0 rfl (.const (.int .i64 0)) (.tmp 18) 38 rfl w.heap.size 25 .u32 tabN .i64 .i64 _ (xa.length + 1) rfl rfl (by omega) (by omega) (Nat.le_refl _) ?_; intro w1 hO1 hU1))
  have HO1 := Lib.hid hO1
  clear hO1
  go_loopw [5, 6, 22] (fun v c i wr => ∃ (k : Nat) (cy : Nat) (xs : List Nat), k ≤ xa.length ∧ i = .int .i64 k ∧ c = .int .u32 cy ∧ cy ≤ 1 ∧ OI wr w.heap.size 25 .u32 v (zs xs) ∧ xs.length = k ∧ (∀ a ∈ xs, a < 1000000000) ∧
      nv xs + 1000000000 ^ k * cy = nv (xa.take k) + nv (xb.take k) ∧ Up w wr) (fun _ _ i _ => xa.length - (intOf i).toNat)
  case atStart => exact ⟨0, 0, [], Nat.zero_le _, rfl, rfl, by omega, HO1.out, rfl, by simp, by simp [nv], hU1⟩
  case round =>
    obtain ⟨k, cy, xs, hk, rfl, rfl, hcy, hO, hxl, hxs, hnv, hU⟩ := hrel
    have hus := hU.size
    have hxl1 : xs.length ≤ 17179869184 := by omega
    have HXL := Lib.hid hxl
    have HXS := Lib.hid hxs
    have HO := Lib.hid hO
    by_cases hlt : k < xa.length
    · obtain ⟨ad, hAd, had, hcell⟩ := (ha.below hU).nat hlt
      subst hAd
      have ha9 := HLX.out xa[k] (List.getElem_mem hlt)
      have hta := nv_take' xa k
      have htb := nv_take' xb k
      rw [show xa.getD k 0 = xa[k] from by simp [hlt]] at hta
      obtain ⟨z, hz⟩ : ∃ z, z = xa[k] := ⟨_, rfl⟩
      rw [← hz] at hcell ha9 hta
      by_cases hlb : k < xb.length
      · obtain ⟨ae, hAe, hae, hcb⟩ := (hb.below hU).nat hlb
        subst hAe
        have hb9 := HLY.out xb[k] (List.getElem_mem hlb)
        rw [show xb.getD k 0 = xb[k] from by simp [hlb]] at htb
        obtain ⟨u, hu⟩ : ∃ u, u = xb[k] := ⟨_, rfl⟩
        rw [← hu] at hcb hb9 htb
        have hst := add_step (a := z) (b := u) hnv rfl
        have hst2 : nv xs + 1000000000 ^ k * ((z + cy + u) % 1000000000) + 1000000000 ^ (k + 1) * ((z + cy + u) / 1000000000) = nv (xa.take (k + 1)) + nv (xb.take (k + 1)) := by rw [hst, hta, htb]; omega
        have HST := Lib.hid hst2
        have hcl : (z + cy + u) / 1000000000 ≤ 1 := by omega
        have hdl : decide (k < xb.length) = true := by simp; omega
        clear hz hu hst hst2 hta htb hnv hxl hxs hO
        go_wp2_with (first
          | (at_builtin; go_must (refine wpList_append_ints rfl (.tmp 43) (.tmp 46) 38 rfl w.heap.size 25 .u32 tabN u5 (zs xs) rfl (HO.out.alloc _) (wr.heap.size + 1) (some ⟨wr.heap.size, 0, none⟩) 1 [((z : Int) + cy + u) % 1000000000] rfl (by exact SI.blk _ (Blk.new wr 25 _) (by simp)) (by simp; omega) (by simp; omega) ?_; intro v2 w2 hA2)))
        go_roundw
        case rel =>
          refine ⟨k + 1, (z + cy + u) / 1000000000, xs ++ [(z + cy + u) % 1000000000], by omega, by go_num, by go_num, hcl, ?_, by rw [List.length_append, HXL.out]; rfl, ?_, ?_, ?_⟩
          · rw [zs_one xs _ (z := ((z : Int) + cy + u) % 1000000000) (by omega)]; exact hA2.own
          · intro a ha
            rcases List.mem_append.1 ha with ha | ha
            · exact HXS.out a ha
            · simp at ha; omega
          · rw [nv_snoc, HXL.out]; exact HST.out
          · exact hA2.below (hU.alloc hus _) (HO.out.alloc _) (by simp; omega)
        case measure => simp [intOf]; omega
      · rw [show xb.getD k 0 = 0 from by simp [List.getElem?_eq_none (by omega : xb.length ≤ k)]] at htb
        have hst := add_step (a := z) (b := 0) hnv rfl
        have hst2 : nv xs + 1000000000 ^ k * ((z + cy) % 1000000000) + 1000000000 ^ (k + 1) * ((z + cy) / 1000000000) = nv (xa.take (k + 1)) + nv (xb.take (k + 1)) := by rw [Nat.add_zero] at hst; rw [hst, hta, htb]; omega
        have HST := Lib.hid hst2
        have hcl : (z + cy) / 1000000000 ≤ 1 := by omega
        have hdl : decide (k < xb.length) = false := by simp; omega
        clear hz hst hst2 hta htb hnv hxl hxs hO hlb
        go_wp2_with (first
          | (at_builtin; go_must (refine wpList_append_ints rfl (.tmp 43) (.tmp 46) 38 rfl w.heap.size 25 .u32 tabN u5 (zs xs) rfl (HO.out.alloc _) (wr.heap.size + 1) (some ⟨wr.heap.size, 0, none⟩) 1 [((z : Int) + cy) % 1000000000] rfl (by exact SI.blk _ (Blk.new wr 25 _) (by simp)) (by simp; omega) (by simp; omega) ?_; intro v2 w2 hA2)))
        go_roundw
        case rel =>
          refine ⟨k + 1, (z + cy) / 1000000000, xs ++ [(z + cy) % 1000000000], by omega, by go_num, by go_num, hcl, ?_, by rw [List.length_append, HXL.out]; rfl, ?_, ?_, ?_⟩
          · rw [zs_one xs _ (z := ((z : Int) + cy) % 1000000000) (by omega)]; exact hA2.own
          · intro a ha
            rcases List.mem_append.1 ha with ha | ha
            · exact HXS.out a ha
            · simp at ha; omega
          · rw [nv_snoc, HXL.out]; exact HST.out
          · exact hA2.below (hU.alloc hus _) (HO.out.alloc _) (by simp; omega)
        case measure => simp [intOf]; omega
    · have hk' : k = xa.length := by omega
      subst hk'
      rw [List.take_length, List.take_of_length_le (by omega), HX.out, HY.out] at hnv
      by_cases hc0 : cy = 0
      · subst hc0
        have hv : nv xs = x + y := by simpa using hnv
        have hd := digs_of_len HXS.out (by rw [hv, HXL.out]; exact HLM.out)
        rw [hv] at hd
        have hlx : xs.length = ln (x + y) := by rw [ln, hd]
        obtain ⟨A2, c2, hv2, hc2, hm2, sA2, hO2⟩ := HO.out.form
        rw [zs_length, hlx] at hv2 hc2
        rw [← hd] at sA2
        have H2 := Lib.hid sA2
        have H3 := Lib.hid (And.intro hm2 hc2)
        rw [hv2]
        clear hd hO sA2 hO2 hm2 hc2 hv hnv hlx hxl
        go_wp2_with fail
        go_ret
        exact ⟨A2, c2, rfl, H3.out.2, by simpa [maxLen] using H3.out.1, H2.out, hU⟩
      · have hc1 : decide ((0 : Int) < cy) = true := by simp; omega
        have hv : nv (xs ++ [cy]) = x + y := by rw [nv_snoc, HXL.out]; exact hnv
        have hall : ∀ a ∈ xs ++ [cy], a < 1000000000 := by
          intro a ha
          rcases List.mem_append.1 ha with ha | ha
          · exact HXS.out a ha
          · simp at ha; omega
        have hge : xa.length + 1 ≤ ln (x + y) := by
          rcases Nat.lt_or_ge xa.length (ln (x + y)) with h | h
          · exact h
          · have h1 := ln_le.1 h
            have h2 : 1000000000 ^ xa.length * 1 ≤ 1000000000 ^ xa.length * cy := Nat.mul_le_mul (Nat.le_refl _) (by omega)
            omega
        have hd := digs_of_len hall (by rw [hv, List.length_append, HXL.out]; exact hge)
        rw [hv] at hd
        have hlx : xs.length + 1 = ln (x + y) := by rw [ln, hd]; simp
        have HD := Lib.hid hd
        have HLX2 := Lib.hid hlx
        clear hd hv hall hge hlx hnv hxl
        go_wp2_with (first
          | (at_builtin; go_must (refine wpList_append_ints rfl (.tmp 51) (.tmp 53) 38 rfl w.heap.size 25 .u32 tabN u5 (zs xs) rfl (HO.out.alloc _) (wr.heap.size + 1) (some ⟨wr.heap.size, 0, none⟩) 1 [(cy : Int)] rfl (by exact SI.blk _ (Blk.new wr 25 _) (by simp)) (by simp; omega) (by simp; omega) ?_; intro v2 w2 hA2; obtain ⟨A2, c2, hv2, hc2, hm2, sA2, hO2⟩ := hA2.own.form; rw [← zs_one xs cy rfl, zs_length, List.length_append, show xs.length + [cy].length = ln (x + y) from HLX2.out] at hv2; rw [hv2])))
        go_ret
        rw [← zs_one xs cy rfl] at sA2 hc2
        rw [← HD.out] at sA2
        rw [zs_length, List.length_append, show xs.length + [cy].length = ln (x + y) from HLX2.out] at hc2
        exact ⟨A2, c2, rfl, hc2, by simpa [maxLen] using hm2, sA2, hA2.below (hU.alloc hus _) (HO.out.alloc _) (by simp; omega)⟩

theorem add_any (A : Option Addr) (cap x : Nat) (B : Option Addr) (dap y : Nat) (w : World) (ha : NS w A x) (hb : NS w B y) (hla : ln x ≤ 17179869184) (hlb : ln y ≤ 17179869184) :
    Calls Tryd.prog 40 #[.slice A (ln x) cap, .slice B (ln y) dap] w (RetN w (x + y)) := by
  rcases Nat.lt_or_ge (ln x) (ln y) with h | h
  · rw [Nat.add_comm]
    exact add_lt B dap y A cap x w hb ha hlb h
  · exact add_ge A cap x B dap y w ha hb hla h
end Go.Proofs.YtefiapjfiojaoaaDoor

/-
  The contract of rational.subtract.
-/
namespace Go.Proofs.YtefiapjfiojaoaaDoor
open Go.RowKit

set_option maxHeartbeats 3200000 in
theorem subtract_any (A : Option Addr) (cap x : Nat) (B : Option Addr) (dap y : Nat) (w : World) (ha : NS w A x) (hb : NS w B y) (hla : ln x ≤ 17179869184) (hyx : y ≤ x) :
    Calls Tryd.prog 41 #[.slice A (ln x) cap, .slice B (ln y) dap] w (RetN w (x - y)) := by
  have hlen := ln_mono hyx
  unfold NS at ha hb
  have hnx := nv_digs x
  have hny := nv_digs y
  have hltx := digs_lt x
  have hlty := digs_lt y
  have hlnx : (digs x).length = ln x := rfl
  have hlny : (digs y).length = ln y := rfl
  obtain ⟨xa, hxa⟩ : ∃ ns, ns = digs x := ⟨_, rfl⟩
  obtain ⟨xb, hxb⟩ : ∃ ns, ns = digs y := ⟨_, rfl⟩
  rw [← hxa] at ha hnx hltx hlnx
  rw [← hxb] at hb hny hlty hlny
  rw [← hlnx] at hla hlen ⊢
  rw [← hlny] at hlen ⊢
  clear hxa hxb hlnx hlny
  have HX := Lib.hid hnx
  have HY := Lib.hid hny
  have HLX := Lib.hid hltx
  have HLY := Lib.hid hlty
  have HYX := Lib.hid hyx
  clear hnx hny hltx hlty hyx
  go_enter Tryd.func41, Tryd.ntmps41
  go_wp2_with (first
    | (at_make; refine wpList_make0 rfl (.const (.int .i64 0)) (.tmp 10) 38 rfl w.heap.size 25 .u32 tabN .i64 .i64 _ xa.length rfl rfl (by omega) (by omega) (Nat.le_refl _) ?_; intro w1 hO1 hU1))
  have HO1 := Lib.hid hO1
  clear hO1
  go_loopw [5, 6, 14] (fun v c i wr => ∃ (k : Nat) (cy : Nat) (xs : List Nat), k ≤ xa.length ∧ i = .int .i64 k ∧ c = .int .i64 cy ∧ cy ≤ 1 ∧ OI wr w.heap.size 25 .u32 v (zs xs) ∧ xs.length = k ∧ (∀ a ∈ xs, a < 1000000000) ∧
      nv (xa.take k) + 1000000000 ^ k * cy = nv xs + nv (xb.take k) ∧ Up w wr) (fun _ _ i _ => xa.length - (intOf i).toNat)
  case atStart => exact ⟨0, 0, [], Nat.zero_le _, rfl, rfl, by omega, HO1.out, rfl, by simp, by simp [nv], hU1⟩
  case round =>
    obtain ⟨k, cy, xs, hk, rfl, rfl, hcy, hO, hxl, hxs, hnv, hU⟩ := hrel
    have hus := hU.size
    have hxl1 : xs.length ≤ 17179869184 := by omega
    have HXL := Lib.hid hxl
    have HXS := Lib.hid hxs
    have HO := Lib.hid hO
    by_cases hlt : k < xa.length
    · obtain ⟨ad, hAd, had, hcell⟩ := (ha.below hU).nat hlt
      subst hAd
      have ha9 := HLX.out xa[k] (List.getElem_mem hlt)
      have hta := nv_take' xa k
      have htb := nv_take' xb k
      rw [show xa.getD k 0 = xa[k] from by simp [hlt]] at hta
      obtain ⟨z, hz⟩ : ∃ z, z = xa[k] := ⟨_, rfl⟩
      rw [← hz] at hcell ha9 hta
      by_cases hlb : k < xb.length
      · obtain ⟨ae, hAe, hae, hcb⟩ := (hb.below hU).nat hlb
        subst hAe
        have hb9 := HLY.out xb[k] (List.getElem_mem hlb)
        rw [show xb.getD k 0 = xb[k] from by simp [hlb]] at htb
        obtain ⟨u, hu⟩ : ∃ u, u = xb[k] := ⟨_, rfl⟩
        rw [← hu] at hcb hb9 htb
        have hdl : decide (k < xb.length) = true := by simp; omega
        by_cases hneg : z < cy + u
        · have hst2 : nv (xa.take (k + 1)) + 1000000000 ^ (k + 1) * 1 = nv (xs ++ [z + 1000000000 - cy - u]) + nv (xb.take (k + 1)) := by
            rw [nv_snoc, hxl, hta, htb]
            exact sub_step hnv (by omega)
          have HST := Lib.hid hst2
          have hbnd : z + 1000000000 - cy - u < 1000000000 := by omega
          have hsg : decide (((z : Int) - cy - u) < 0) = true := by simp <;> omega
          have hz0 : (0 : Int) ≤ (z : Int) - cy - u + 1000000000 := by omega
          have hz1 : (z : Int) - cy - u + 1000000000 < 1000000000 := by omega
          have heq : ((z : Int) - cy - u + 1000000000 : Int) = ((z + 1000000000 - cy - u : Nat) : Int) := by omega
          have HQ := Lib.hid heq
          clear hz hu hst2 hta htb hnv hxl hxs hO heq
          go_wp2_with (first
            | (at_builtin; go_must (refine wpList_append_ints rfl (.tmp 39) (.tmp 42) 38 rfl w.heap.size 25 .u32 tabN u5 (zs xs) rfl (HO.out.alloc _) (wr.heap.size + 1) (some ⟨wr.heap.size, 0, none⟩) 1 [(z : Int) - cy - u + 1000000000] rfl (by exact SI.blk _ (Blk.new wr 25 _) (by simp)) (by simp; omega) (by simp; omega) ?_; intro v2 w2 hA2)))
          go_roundw
          case rel =>
            refine ⟨k + 1, 1, xs ++ [z + 1000000000 - cy - u], by omega, by go_num, rfl, by omega, ?_, by rw [List.length_append, HXL.out]; rfl, ?_, HST.out, ?_⟩
            · rw [zs_one xs _ HQ.out]; exact hA2.own
            · intro a ha
              rcases List.mem_append.1 ha with ha | ha
              · exact HXS.out a ha
              · simp at ha; omega
            · exact hA2.below (hU.alloc hus _) (HO.out.alloc _) (by simp; omega)
          case measure => simp [intOf]; omega
        · have hst2 : nv (xa.take (k + 1)) + 1000000000 ^ (k + 1) * 0 = nv (xs ++ [z - cy - u]) + nv (xb.take (k + 1)) := by
            rw [nv_snoc, hxl, hta, htb]
            exact sub_step hnv (by omega)
          have HST := Lib.hid hst2
          have hbnd : z - cy - u < 1000000000 := by omega
          have hsg : decide (((z : Int) - cy - u) < 0) = false := by simp <;> omega
          have hz0 : (0 : Int) ≤ (z : Int) - cy - u := by omega
          have hz1 : (z : Int) - cy - u < 1000000000 := by omega
          have heq : ((z : Int) - cy - u : Int) = ((z - cy - u : Nat) : Int) := by omega
          have HQ := Lib.hid heq
          clear hz hu hst2 hta htb hnv hxl hxs hO heq
          go_wp2_with (first
            | (at_builtin; go_must (refine wpList_append_ints rfl (.tmp 39) (.tmp 42) 38 rfl w.heap.size 25 .u32 tabN u5 (zs xs) rfl (HO.out.alloc _) (wr.heap.size + 1) (some ⟨wr.heap.size, 0, none⟩) 1 [(z : Int) - cy - u] rfl (by exact SI.blk _ (Blk.new wr 25 _) (by simp)) (by simp; omega) (by simp; omega) ?_; intro v2 w2 hA2)))
          go_roundw
          case rel =>
            refine ⟨k + 1, 0, xs ++ [z - cy - u], by omega, by go_num, rfl, by omega, ?_, by rw [List.length_append, HXL.out]; rfl, ?_, HST.out, ?_⟩
            · rw [zs_one xs _ HQ.out]; exact hA2.own
            · intro a ha
              rcases List.mem_append.1 ha with ha | ha
              · exact HXS.out a ha
              · simp at ha; omega
            · exact hA2.below (hU.alloc hus _) (HO.out.alloc _) (by simp; omega)
          case measure => simp [intOf]; omega
      · rw [show xb.getD k 0 = 0 from by simp [List.getElem?_eq_none (by omega : xb.length ≤ k)]] at htb
        have hdl : decide (k < xb.length) = false := by simp; omega
        clear hlb
        by_cases hneg : z < cy
        · have hst2 : nv (xa.take (k + 1)) + 1000000000 ^ (k + 1) * 1 = nv (xs ++ [z + 1000000000 - cy]) + nv (xb.take (k + 1)) := by
            rw [nv_snoc, hxl, hta, htb]
            exact sub_step hnv (by omega)
          have HST := Lib.hid hst2
          have hbnd : z + 1000000000 - cy < 1000000000 := by omega
          have hsg : decide (((z : Int) - cy) < 0) = true := by simp <;> omega
          have hz0 : (0 : Int) ≤ (z : Int) - cy + 1000000000 := by omega
          have hz1 : (z : Int) - cy + 1000000000 < 1000000000 := by omega
          have heq : ((z : Int) - cy + 1000000000 : Int) = ((z + 1000000000 - cy : Nat) : Int) := by omega
          have HQ := Lib.hid heq
          clear hz hst2 hta htb hnv hxl hxs hO heq
          go_wp2_with (first
            | (at_builtin; go_must (refine wpList_append_ints rfl (.tmp 39) (.tmp 42) 38 rfl w.heap.size 25 .u32 tabN u5 (zs xs) rfl (HO.out.alloc _) (wr.heap.size + 1) (some ⟨wr.heap.size, 0, none⟩) 1 [(z : Int) - cy + 1000000000] rfl (by exact SI.blk _ (Blk.new wr 25 _) (by simp)) (by simp; omega) (by simp; omega) ?_; intro v2 w2 hA2)))
          go_roundw
          case rel =>
            refine ⟨k + 1, 1, xs ++ [z + 1000000000 - cy], by omega, by go_num, rfl, by omega, ?_, by rw [List.length_append, HXL.out]; rfl, ?_, HST.out, ?_⟩
            · rw [zs_one xs _ HQ.out]; exact hA2.own
            · intro a ha
              rcases List.mem_append.1 ha with ha | ha
              · exact HXS.out a ha
              · simp at ha; omega
            · exact hA2.below (hU.alloc hus _) (HO.out.alloc _) (by simp; omega)
          case measure => simp [intOf]; omega
        · have hst2 : nv (xa.take (k + 1)) + 1000000000 ^ (k + 1) * 0 = nv (xs ++ [z - cy]) + nv (xb.take (k + 1)) := by
            rw [nv_snoc, hxl, hta, htb]
            exact sub_step hnv (by omega)
          have HST := Lib.hid hst2
          have hbnd : z - cy < 1000000000 := by omega
          have hsg : decide (((z : Int) - cy) < 0) = false := by simp <;> omega
          have hz0 : (0 : Int) ≤ (z : Int) - cy := by omega
          have hz1 : (z : Int) - cy < 1000000000 := by omega
          have heq : ((z : Int) - cy : Int) = ((z - cy : Nat) : Int) := by omega
          have HQ := Lib.hid heq
          clear hz hst2 hta htb hnv hxl hxs hO heq
          go_wp2_with (first
            | (at_builtin; go_must (refine wpList_append_ints rfl (.tmp 39) (.tmp 42) 38 rfl w.heap.size 25 .u32 tabN u5 (zs xs) rfl (HO.out.alloc _) (wr.heap.size + 1) (some ⟨wr.heap.size, 0, none⟩) 1 [(z : Int) - cy] rfl (by exact SI.blk _ (Blk.new wr 25 _) (by simp)) (by simp; omega) (by simp; omega) ?_; intro v2 w2 hA2)))
          go_roundw
          case rel =>
            refine ⟨k + 1, 0, xs ++ [z - cy], by omega, by go_num, rfl, by omega, ?_, by rw [List.length_append, HXL.out]; rfl, ?_, HST.out, ?_⟩
            · rw [zs_one xs _ HQ.out]; exact hA2.own
            · intro a ha
              rcases List.mem_append.1 ha with ha | ha
              · exact HXS.out a ha
              · simp at ha; omega
            · exact hA2.below (hU.alloc hus _) (HO.out.alloc _) (by simp; omega)
          case measure => simp [intOf]; omega
    · have hk' : k = xa.length := by omega
      subst hk'
      rw [List.take_length, List.take_of_length_le (by omega), HX.out, HY.out] at hnv
      have hv : nv xs = x - y := sub_end hnv (by have := nv_lt xs HXS.out; rwa [hxl] at this) HYX.out hcy
      obtain ⟨A2, c2, hv2, hc2, hm2, sA2, hO2⟩ := HO.out.form
      rw [zs_length] at hv2 hc2
      obtain ⟨T1, T2⟩ := trim_reads sA2 HXS.out
      rw [hv] at T1 T2
      have HT := trim_any A2 c2 xs wr.heap.size wr sA2 hc2 (by simpa [maxLen] using hm2) HXS.out
      rw [hv] at HT
      have H1 := Lib.hid HT
      have H2 := Lib.hid T1
      have H3 := Lib.hid (And.intro hm2 (Nat.le_trans T2 hc2))
      rw [hv2]
      clear HT T1 T2 sA2 hv hO2 hm2 hc2 hnv hxl hxs hO
      go_wp2_with fail
      refine H1.out.mono ?_
      rintro e w2 ⟨rfl, rfl⟩
      go_wp2_with fail
      go_ret
      exact ⟨A2, c2, rfl, H3.out.2, by simpa [maxLen] using H3.out.1, H2.out, hU⟩
end Go.Proofs.YtefiapjfiojaoaaDoor

/-
  The contract of rational.multiply.
-/
namespace Go.Proofs.YtefiapjfiojaoaaDoor
open Go.RowKit

set_option maxHeartbeats 6400000 in
theorem multiply_any (A : Option Addr) (cap x : Nat) (B : Option Addr) (dap y : Nat) (w : World) (ha : NS w A x) (hb : NS w B y) (hla : ln x + ln y ≤ 17179869184) :
    Calls Tryd.prog 21 #[.slice A (ln x) cap, .slice B (ln y) dap] w (RetN w (x * y)) := by
  by_cases hx0 : ln x = 0
  · have hxy : x * y = 0 := by rw [ln_eq_zero.1 hx0, Nat.zero_mul]
    rw [hxy, hx0]
    clear hxy ha hb
    go_enter Tryd.func21, Tryd.ntmps21
    go_wp2_with fail
    go_ret
    exact RetN.nil (Up.refl _)
  by_cases hy0 : ln y = 0
  · have hxy : x * y = 0 := by rw [ln_eq_zero.1 hy0, Nat.mul_zero]
    have hd : (((ln x : Nat) : Int) == 0) = false := by simp; omega
    rw [hxy, hy0]
    clear hxy ha hb hx0
    go_enter Tryd.func21, Tryd.ntmps21
    go_wp2_with fail
    go_ret
    exact RetN.nil (Up.refl _)
  unfold NS at ha hb
  have hnx := nv_digs x
  have hny := nv_digs y
  have hltx := digs_lt x
  have hlty := digs_lt y
  have hlnx : (digs x).length = ln x := rfl
  have hlny : (digs y).length = ln y := rfl
  obtain ⟨xa, hxa⟩ : ∃ ns, ns = digs x := ⟨_, rfl⟩
  obtain ⟨xb, hxb⟩ : ∃ ns, ns = digs y := ⟨_, rfl⟩
  rw [← hxa] at ha hnx hltx hlnx
  rw [← hxb] at hb hny hlty hlny
  rw [← hlnx] at hla hx0 ⊢
  rw [← hlny] at hla hy0 ⊢
  clear hxa hxb hlnx hlny
  have HX := Lib.hid hnx
  have HY := Lib.hid hny
  have HLX := Lib.hid hltx
  have HLY := Lib.hid hlty
  have hd : (((xa.length : Nat) : Int) == 0) = false := by simp; exact List.ne_nil_of_length_pos (by omega)
  have hd' : (((xb.length : Nat) : Int) == 0) = false := by simp; exact List.ne_nil_of_length_pos (by omega)
  have hxp : 0 < xa.length := by omega
  have hyp : 0 < xb.length := by omega
  clear hnx hny hltx hlty hx0 hy0
  go_enter Tryd.func21, Tryd.ntmps21
  go_wp2_with (first
    | (at_make; go_must (refine wpList_makeB rfl (.tmp 22) (.tmp 22) 38 rfl 25 .u32 tabN .i64 .i64 _ _ (xa.length + xb.length) rfl rfl (by omega) (by omega) (by omega) ?_; intro w1 hB1 hU1)))
  obtain ⟨g, hg⟩ : ∃ g, g = w.heap.size := ⟨_, rfl⟩
  rw [← hg] at hB1
  have hgw : w.heap.size ≤ g := by omega
  rw [← hg]
  have HB1 := Lib.hid (BN.zeros hB1)
  clear hB1 hg
  go_loopw [26] (fun i wr => ∃ (k : Nat) (o : List Nat), k ≤ xa.length ∧ i = .int .i64 k ∧ o.length = xa.length + xb.length ∧ (∀ a ∈ o, a < 1000000000) ∧ nv o = nv (xa.take k) * y ∧
      (∀ j (h : j < o.length), k + xb.length ≤ j → o[j] = 0) ∧ BN wr g o ∧ Up w wr) (fun i _ => xa.length - (intOf i).toNat)
  case atStart =>
    refine ⟨0, List.replicate (xa.length + xb.length) 0, Nat.zero_le _, rfl, by simp, ?_, ?_, ?_, HB1.out, hU1⟩
    · intro a ha; simp at ha; omega
    · have := nv_zeros [] (xa.length + xb.length); simp [nv] at this; simp [nv, this]
    · intro j hj _; simp
  case round =>
    obtain ⟨k, o, hk, rfl, hol, hos, hnv, hoz, hB, hU⟩ := hrel
    have hus := hU.size
    by_cases hlt : k < xa.length
    · obtain ⟨ad, hAd, had, hcell⟩ := (ha.below hU).nat hlt
      subst hAd
      have ha9 := HLX.out xa[k] (List.getElem_mem hlt)
      have hta := nv_take xa k hlt
      obtain ⟨z, hz⟩ : ∃ z, z = xa[k] := ⟨_, rfl⟩
      rw [← hz] at hcell ha9 hta
      have HTA := Lib.hid hta
      have HOL := Lib.hid hol
      have HOS := Lib.hid hos
      have HNV := Lib.hid hnv
      have HOZ := Lib.hid hoz
      have HBB := Lib.hid hB
      obtain ⟨wo, hwo⟩ : ∃ wo : World, wo = wr := ⟨_, rfl⟩
      rw [← hwo] at hU hus hcell HBB
      rw [← hwo]
      clear hz hta hol hos hnv hoz hB hwo
      go_wp2_with fail
      go_loopw [7, 31] (fun c j wr => ∃ (m cy : Nat) (o : List Nat), m ≤ xb.length ∧ j = .int .i64 m ∧ c = .int .u64 cy ∧ cy < 1000000000 ∧ o.length = xa.length + xb.length ∧ (∀ a ∈ o, a < 1000000000) ∧
          nv o + 1000000000 ^ (k + m) * cy = nv (xa.take k) * y + z * (1000000000 ^ k * nv (xb.take m)) ∧ (∀ t (h : t < o.length), k + xb.length ≤ t → o[t] = 0) ∧ BN wr g o ∧ Up w wr) (fun _ j _ => xb.length - (intOf j).toNat)
      case atStart => exact ⟨0, 0, o, Nat.zero_le _, rfl, rfl, by omega, HOL.out, HOS.out, by simp [nv, HNV.out], HOZ.out, HBB.out, hU⟩
      case round =>
        obtain ⟨m, cy, o2, hm, rfl, rfl, hcy, hol, hos, hnv, hoz, hB, hU2⟩ := hrel
        have hus2 := hU2.size
        by_cases hlm : m < xb.length
        · obtain ⟨ae, hAe, hae, hcb⟩ := (hb.below hU2).nat hlm
          subst hAe
          have hca := (hU2.cell (p := ad.add k) (by rw [block_of_add]; exact had)).trans ((hU.cell (p := ad.add k) (by rw [block_of_add]; exact had)).symm.trans hcell)
          have hb9 := HLY.out xb[m] (List.getElem_mem hlm)
          have hp : k + m < o2.length := by omega
          have htb := nv_take xb m hlm
          have hst := mul_step (a := z) (b := xb[m]) hp hnv rfl
          rw [← htb] at hst
          have hco := hB.cell hp
          have ho9 := hos o2[k + m] (List.getElem_mem hp)
          have hfo := hB.frozen (k + m)
          obtain ⟨u, hu⟩ : ∃ u, u = xb[m] := ⟨_, rfl⟩
          rw [← hu] at hcb hb9 hst
          obtain ⟨q, hq⟩ : ∃ q, q = o2[k + m] := ⟨_, rfl⟩
          rw [← hq] at hco ho9 hst
          have hmc := mul_carry ha9 hb9 ho9 hcy
          have HST := Lib.hid hst
          have HBS := Lib.hid hB
          have HMO := Lib.hid (show ((z : Int) * u + q + cy) % 1000000000 = (((z * u + q + cy) % 1000000000 : Nat) : Int) from by rw [← Int.natCast_mul]; omega)
          have HOL2 := Lib.hid hol
          have HOS2 := Lib.hid (set_lt (p := k + m) (v := (z * u + q + cy) % 1000000000) hos (by omega))
          have HOZ2 : Hid (∀ t (h : t < (o2.set (k + m) ((z * u + q + cy) % 1000000000)).length), k + xb.length ≤ t → (o2.set (k + m) ((z * u + q + cy) % 1000000000))[t] = 0) := by
            intro t h ht
            rw [List.getElem_set, if_neg (by omega)]
            exact hoz t (by simpa using h) ht
          have hzu : (0 : Int) ≤ (z : Int) * u ∧ (z : Int) * u ≤ 999999998000000001 := by
            rw [← Int.natCast_mul]; omega
          have HCY := Lib.hid (show (((z * u + q + cy) / 1000000000 : Nat) : Int) = ((z : Int) * u + q + cy) / 1000000000 from by rw [← Int.natCast_mul]; omega)
          have hmc2 := hmc.2
          have e1 : IntKind.i64.wrap ((k : Int) + m) = (k : Int) + m := IntWalk.i64_in _ (by omega)
          have e2 : (0 : Int) ≤ (k : Int) + m := by omega
          have e3 : ((k : Int) + m).toNat = k + m := by omega
          have e4 : (k : Int) + m < (xa.length : Int) + xb.length := by omega
          have e5 : IntKind.u64.wrap ((z : Int) * u) = (z : Int) * u := IntWalk.u64_in _ (by omega)
          have e6 : IntKind.u64.wrap ((z : Int) * u + q) = (z : Int) * u + q := IntWalk.u64_in _ (by omega)
          have e7 : IntKind.u64.wrap ((z : Int) * u + q + cy) = (z : Int) * u + q + cy := IntWalk.u64_in _ (by omega)
          have i1 : (k : Int) < xa.length := by omega
          have i2 : (m : Int) < xb.length := by omega
          have i3 : (0 : Int) ≤ k := by omega
          have i4 : (0 : Int) ≤ m := by omega
          clear hu hq hst htb hnv hol hos hoz hB hmc
          go_wp2_with fail
          go_quiet (fail)
          clear e1 e3 e5 e6 e7
          go_wp2_with fail
          go_roundw
          case rel =>
            refine ⟨m + 1, (z * u + q + cy) / 1000000000, o2.set (k + m) ((z * u + q + cy) % 1000000000), by omega, by go_num, by rw [HCY.out], hmc2, by rw [List.length_set]; exact HOL2.out, HOS2.out, HST.out, HOZ2.out, ?_, ?_⟩
            · exact (HBS.out.drewN _).set_ (k + m) _ HMO.out
            · exact (below_drewN hU2 _).setCell (by simp; omega) _
          case measure => simp [intOf]; omega
        · have hm' : m = xb.length := by omega
          subst hm'
          rw [List.take_length, HY.out] at hnv
          have hp : k + xb.length < o2.length := by omega
          have h0 := hoz (k + xb.length) hp (Nat.le_refl _)
          have hrow := mul_row hp h0 hnv
          rw [show nv (xa.take k) + 1000000000 ^ k * z = nv (xa.take (k + 1)) from HTA.out.symm] at hrow
          have hco := hB.cell hp
          have hfo := hB.frozen (k + xb.length)
          have HROW := Lib.hid hrow
          have HBS := Lib.hid hB
          have HOL2 := Lib.hid hol
          have HOS2 := Lib.hid (set_lt (p := k + xb.length) (v := cy) hos hcy)
          have HOZ2 : Hid (∀ t (h : t < (o2.set (k + xb.length) cy).length), k + 1 + xb.length ≤ t → (o2.set (k + xb.length) cy)[t] = 0) := by
            intro t h ht
            rw [List.getElem_set, if_neg (by omega)]
            exact hoz t (by simpa using h) (by omega)
          have e4 : (k : Int) + xb.length < (xa.length : Int) + xb.length := by omega
          clear hrow hnv hol hos hoz hB h0
          go_wp2_with fail
          go_roundw
          case rel =>
            refine ⟨k + 1, o2.set (k + xb.length) cy, by omega, by go_num, by rw [List.length_set]; exact HOL2.out, HOS2.out, HROW.out, HOZ2.out, ?_, ?_⟩
            · exact HBS.out.set_ (k + xb.length) _ rfl
            · exact hU2.setCell (by simp; omega) _
          case measure => simp [intOf]; omega
    · have hk' : k = xa.length := by omega
      subst hk'
      rw [List.take_length, HX.out] at hnv
      have sA2 := hB.si
      obtain ⟨T1, T2⟩ := trim_reads sA2 hos
      rw [hnv] at T1 T2
      have HT := trim_any _ (xa.length + xb.length) o wr.heap.size wr sA2 (by omega) (by omega) hos
      rw [hnv, hol] at HT
      rw [hol] at T2
      have H1 := Lib.hid HT
      have H2 := Lib.hid T1
      have H3 := Lib.hid T2
      clear HT T1 T2 sA2 hnv hol hos hoz hB
      go_wp2_with fail
      refine H1.out.mono ?_
      rintro e w2 ⟨rfl, rfl⟩
      go_wp2_with fail
      go_ret
      exact ⟨_, _, rfl, H3.out, by omega, H2.out, hU⟩
end Go.Proofs.YtefiapjfiojaoaaDoor

/-
  The contracts of rational.multiplySmall, rational.divideSmall.
-/
namespace Go.Proofs.YtefiapjfiojaoaaDoor
open Go.RowKit

/-- A call returns a new block of n limbs that denote x. -/
def RetB (w0 : World) (n x : Nat) (e : Ending) (w' : World) : Prop :=
  ∃ o : List Nat, e = .returned (.slice (some ⟨w0.heap.size, 0, none⟩) n n) ∧ o.length = n ∧ (∀ a ∈ o, a < 1000000000) ∧ nv o = x ∧ BN w' w0.heap.size o ∧ Up w0 w'

set_option maxHeartbeats 3200000 in
theorem multiplySmall_any (A : Option Addr) (cap x m : Nat) (w : World) (ha : NS w A x) (hla : ln x ≤ 17179869184) (hm : m < 1000000000) :
    Calls Tryd.prog 55 #[.slice A (ln x) cap, .int .u64 m] w (RetB w (ln x + 1) (x * m)) := by
  unfold NS at ha
  have hnx := nv_digs x
  have hltx := digs_lt x
  have hlnx : (digs x).length = ln x := rfl
  obtain ⟨xa, hxa⟩ : ∃ ns, ns = digs x := ⟨_, rfl⟩
  rw [← hxa] at ha hnx hltx hlnx
  rw [← hlnx] at hla ⊢
  clear hxa hlnx
  have HX := Lib.hid hnx
  have HLX := Lib.hid hltx
  clear hnx hltx
  go_enter Tryd.func55, Tryd.ntmps55
  go_wp2_with (first
    | (at_make; go_must (refine wpList_makeB rfl (.tmp 11) (.tmp 11) 38 rfl 25 .u32 tabN .i64 .i64 _ _ (xa.length + 1) rfl rfl (by omega) (by omega) (by omega) ?_; intro w1 hB1 hU1)))
  obtain ⟨g, hg⟩ : ∃ g, g = w.heap.size := ⟨_, rfl⟩
  rw [← hg] at hB1
  have hgw : w.heap.size ≤ g := by omega
  have HG := Lib.hid hg
  rw [← hg]
  have HB1 := Lib.hid (BN.zeros hB1)
  clear hB1 hg
  go_loopw [6, 15] (fun c i wr => ∃ (k cy : Nat) (o : List Nat), k ≤ xa.length ∧ i = .int .i64 k ∧ c = .int .u64 cy ∧ cy < 1000000000 ∧ o.length = xa.length + 1 ∧ (∀ a ∈ o, a < 1000000000) ∧ nv o + 1000000000 ^ k * cy = nv (xa.take k) * m ∧
      (∀ j (h : j < o.length), k ≤ j → o[j] = 0) ∧ BN wr g o ∧ Up w wr) (fun _ i _ => xa.length - (intOf i).toNat)
  case atStart =>
    refine ⟨0, 0, List.replicate (xa.length + 1) 0, Nat.zero_le _, rfl, rfl, by omega, by simp, ?_, ?_, ?_, HB1.out, hU1⟩
    · intro a ha; simp at ha; omega
    · have := nv_zeros [] (xa.length + 1); simp only [List.nil_append] at this; rw [this]; simp [nv]
    · intro j hj _; simp
  case round =>
    obtain ⟨k, cy, o, hk, rfl, rfl, hcy, hol, hos, hnv, hoz, hB, hU⟩ := hrel
    have hus := hU.size
    by_cases hlt : k < xa.length
    · obtain ⟨ad, hAd, had, hcell⟩ := (ha.below hU).nat hlt
      subst hAd
      have ha9 := HLX.out xa[k] (List.getElem_mem hlt)
      have hta := nv_take xa k hlt
      have hp : k < o.length := by omega
      have hst := small_step (a := xa[k]) hp (hoz k hp (Nat.le_refl _)) hnv rfl
      rw [← hta] at hst
      have hco := hB.cell hp
      have hfo := hB.frozen k
      obtain ⟨z, hz⟩ : ∃ z, z = xa[k] := ⟨_, rfl⟩
      rw [← hz] at hcell ha9 hst
      have hmc := mul_carry (q := 0) ha9 hm (by omega) hcy
      simp only [Nat.add_zero] at hmc
      have HST := Lib.hid hst
      have HBS := Lib.hid hB
      have HMO := Lib.hid (show ((z : Int) * m + cy) % 1000000000 = (((z * m + cy) % 1000000000 : Nat) : Int) from by rw [← Int.natCast_mul]; omega)
      have HCY := Lib.hid (show (((z * m + cy) / 1000000000 : Nat) : Int) = ((z : Int) * m + cy) / 1000000000 from by rw [← Int.natCast_mul]; omega)
      have HOL2 := Lib.hid hol
      have HOS2 := Lib.hid (set_lt (p := k) (v := (z * m + cy) % 1000000000) hos (by omega))
      have HOZ2 : Hid (∀ t (h : t < (o.set k ((z * m + cy) % 1000000000)).length), k + 1 ≤ t → (o.set k ((z * m + cy) % 1000000000))[t] = 0) := by
        intro t h ht
        rw [List.getElem_set, if_neg (by omega)]
        exact hoz t (by simpa using h) (by omega)
      have hzu : (0 : Int) ≤ (z : Int) * m ∧ (z : Int) * m ≤ 999999998000000001 := by
        rw [← Int.natCast_mul]; omega
      have hmc2 := hmc.2
      have i1 : (k : Int) < (xa.length : Int) + 1 := by omega
      clear hz hst hta hnv hol hos hoz hB hmc
      go_wp2_with fail
      go_roundw
      case rel =>
        refine ⟨k + 1, (z * m + cy) / 1000000000, o.set k ((z * m + cy) % 1000000000), by omega, by go_num, by rw [HCY.out], hmc2, by rw [List.length_set]; exact HOL2.out, HOS2.out, HST.out, HOZ2.out, HBS.out.set_ k _ HMO.out, hU.setCell (by simp; omega) _⟩
      case measure => simp [intOf]; omega
    · have hk' : k = xa.length := by omega
      subst hk'
      rw [List.take_length, HX.out] at hnv
      have hp : xa.length < o.length := by omega
      have hend := small_end hp (hoz _ hp (Nat.le_refl _)) hnv
      have hco := hB.cell hp
      have hfo := hB.frozen xa.length
      have HE := Lib.hid hend
      have HBS := Lib.hid hB
      have HOL2 := Lib.hid hol
      have HOS2 := Lib.hid (set_lt (p := xa.length) (v := cy) hos hcy)
      have i1 : (xa.length : Int) < (xa.length : Int) + 1 := by omega
      clear hend hnv hol hos hoz hB
      go_wp2_with fail
      go_ret
      exact ⟨o.set xa.length cy, by rw [HG.out]; rfl, by rw [List.length_set]; exact HOL2.out, HOS2.out, HE.out, by rw [← HG.out]; exact HBS.out.set_ _ _ rfl, hU.setCell (by simp; omega) _⟩

/-- A call returns limbs and a word. -/
def RetNW (w0 : World) (x r : Nat) (e : Ending) (w' : World) : Prop := ∃ A c, e = .returned (.tuple #[.slice A (ln x) c, .int .u64 r]) ∧ ln x ≤ c ∧ c ≤ 9223372036854775807 ∧ NS w' A x ∧ Up w0 w'

set_option maxHeartbeats 3200000 in
theorem divideSmall_any (A : Option Addr) (cap x m : Nat) (w : World) (ha : NS w A x) (hla : ln x ≤ 17179869184) (hm : m < 1000000000) (hm0 : 0 < m) :
    Calls Tryd.prog 54 #[.slice A (ln x) cap, .int .u64 m] w (RetNW w (x / m) (x % m)) := by
  unfold NS at ha
  have hnx := nv_digs x
  have hltx := digs_lt x
  have hlnx : (digs x).length = ln x := rfl
  obtain ⟨xa, hxa⟩ : ∃ ns, ns = digs x := ⟨_, rfl⟩
  rw [← hxa] at ha hnx hltx hlnx
  rw [← hlnx] at hla ⊢
  clear hxa hlnx
  have HX := Lib.hid hnx
  have HLX := Lib.hid hltx
  have hm1 : (1 : Int) ≤ m := by omega
  clear hnx hltx
  go_enter Tryd.func54, Tryd.ntmps54
  go_wp2_with (first
    | (at_make; go_must (refine wpList_makeB rfl (.tmp 11) (.tmp 11) 38 rfl 25 .u32 tabN .i64 .i64 _ _ xa.length rfl rfl (by omega) (by omega) (by omega) ?_; intro w1 hB1 hU1)))
  obtain ⟨g, hg⟩ : ∃ g, g = w.heap.size := ⟨_, rfl⟩
  rw [← hg] at hB1
  have hgw : w.heap.size ≤ g := by omega
  rw [← hg]
  have HB1 := Lib.hid (BN.zeros hB1)
  clear hB1 hg
  go_loopw [7, 8] (fun c i wr => ∃ (k r : Nat) (o : List Nat), k ≤ xa.length ∧ i = .int .i64 ((k : Int) - 1) ∧ c = .int .u64 r ∧ r < m ∧ o.length = xa.length ∧ (∀ a ∈ o, a < 1000000000) ∧ nv (xa.drop k) = m * nv (o.drop k) + r ∧ BN wr g o ∧ Up w wr) (fun _ i _ => (intOf i + 1).toNat)
  case atStart =>
    refine ⟨xa.length, 0, List.replicate xa.length 0, Nat.le_refl _, rfl, rfl, hm0, by simp, ?_, ?_, HB1.out, hU1⟩
    · intro a ha; simp at ha; omega
    · simp [nv]
  case round =>
    obtain ⟨k, r, o, hk, rfl, rfl, hr, hol, hos, hnv, hB, hU⟩ := hrel
    have hus := hU.size
    by_cases hk0 : k = 0
    · subst hk0
      rw [List.drop_zero, List.drop_zero, HX.out] at hnv
      obtain ⟨hq, hrr⟩ := divs_end hnv hr
      have sA2 := hB.si
      obtain ⟨T1, T2⟩ := trim_reads sA2 hos
      rw [hq] at T1 T2
      have HT := trim_any _ xa.length o wr.heap.size wr sA2 (by omega) (by omega) hos
      rw [hq, hol] at HT
      rw [hol] at T2
      have H1 := Lib.hid HT
      have H2 := Lib.hid T1
      have H3 := Lib.hid T2
      have H4 := Lib.hid hrr
      clear HT T1 T2 sA2 hnv hol hos hB hq hrr
      go_wp2_with fail
      refine H1.out.mono ?_
      rintro e w2 ⟨rfl, rfl⟩
      go_wp2_with fail
      go_ret2
      rw [← H4.out]
      exact ⟨_, _, rfl, H3.out, by omega, H2.out, hU⟩
    · obtain ⟨j, rfl⟩ : ∃ j, k = j + 1 := ⟨k - 1, by omega⟩
      have hja : j < xa.length := by omega
      have hjo : j < o.length := by omega
      obtain ⟨ad, hAd, had, hcell⟩ := (ha.below hU).nat hja
      subst hAd
      have ha9 := HLX.out xa[j] (List.getElem_mem hja)
      have hst := divs_step hja hjo hnv rfl
      have hco := hB.cell hjo
      have hfo := hB.frozen j
      obtain ⟨z, hz⟩ : ∃ z, z = xa[j] := ⟨_, rfl⟩
      rw [← hz] at hcell ha9 hst
      have hlt := divs_lt hr ha9
      have HST := Lib.hid hst
      have HBS := Lib.hid hB
      have HOL2 := Lib.hid hol
      have HOS2 := Lib.hid (set_lt (p := j) (v := (r * 1000000000 + z) / m) hos hlt)
      have HML := Lib.hid (Nat.mod_lt (r * 1000000000 + z) hm0)
      have HQ := Lib.hid (show ((r : Int) * 1000000000 + z) / m = (((r * 1000000000 + z) / m : Nat) : Int) from by simp)
      have HR := Lib.hid (show ((r : Int) * 1000000000 + z) % m = (((r * 1000000000 + z) % m : Nat) : Int) from by simp)
      have q0 : (0 : Int) ≤ ((r : Int) * 1000000000 + z) / m := by rw [HQ.out]; exact Int.natCast_nonneg _
      have q1 : ((r : Int) * 1000000000 + z) / m < 1000000000 := by rw [HQ.out]; exact Int.ofNat_lt.2 hlt
      have kk : ((j + 1 : Nat) : Int) - 1 = (j : Int) := by omega
      have ki1 : (0 : Int) ≤ j := by omega
      have ki2 : (j : Int) < xa.length := by omega
      rw [kk]
      clear hz hst hnv hol hos hB hlt hk0 kk
      go_wp2_with fail
      go_roundw
      case rel =>
        refine ⟨j, (r * 1000000000 + z) % m, o.set j ((r * 1000000000 + z) / m), by omega, by go_num, by rw [HR.out], HML.out, by rw [List.length_set]; exact HOL2.out, HOS2.out, HST.out, HBS.out.set_ j _ HQ.out, hU.setCell (by simp; omega) _⟩
      case measure => simp [intOf] <;> omega
end Go.Proofs.YtefiapjfiojaoaaDoor
