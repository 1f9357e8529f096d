/-
  Words for memory, more: rows of integers that the call itself made; append onto them.
-/
import Derived.Test.YtoedmnalnpmleaaWords
import Derived.Maps.AppendAt
namespace Go.Proofs.Ytoedmnalnpmleaa
open Go.RowKit

/-- The tables' rows of a slice type t of elements e of integer kind K. -/
structure IntTab (P : Program) (t e : TypeId) (K : IntKind) : Prop where
  und : P.underlying t = some (.slice e)
  und' : P.underlying e = some (.int K)
  info : ∃ i, P.info? e = some i ∧ i.zero = some (.int K 0) ∧ i.size = 1 ∧ i.bytes ≤ 8

/-- The slice value v owns a row of the numbers zs, in a block from base on. -/
def OI (w : World) (base : Nat) (e : TypeId) (K : IntKind) (v : Value) (zs : List Int) : Prop := w.ownsRow base e 1 v zs.length (zs.map (Value.int K))

section
variable {w w' : World} {base : Nat} {e : TypeId} {K : IntKind} {v : Value} {zs : List Int}
theorem OI.nil_ : OI w base e K (.slice none 0 0) [] := World.ownsRow_nil w base e 1
theorem OI.alloc (h : OI w base e K v zs) (o : Obj) : OI (w.alloc o) base e K v zs := World.ownsRow.alloc h o
theorem OI.drew (h : OI w base e K v zs) : OI w.drew base e K v zs := h
/-- What a row that the call owns is as a value, and as a slice that reads. -/
theorem OI.form (h : OI w base e K v zs) : ∃ A c, v = .slice A zs.length c ∧ zs.length ≤ c ∧ c ≤ maxLen ∧ SI w w.heap.size K A zs ∧ (A = none ∧ c = 0 ∧ v.ownBlock = none ∨ ∃ g, A = some ⟨g, 0, none⟩ ∧ v.ownBlock = some g ∧ base ≤ g ∧ g < w.heap.size) := by
  have h' := h
  unfold OI at h
  obtain ⟨h1, h2⟩ := h
  rcases h2 with ⟨rfl, hx⟩ | ⟨g, cap, cur, rfl, hbg, hh, hnc, hcm, hcs, hcur⟩
  · have : zs = [] := by simpa using hx
    subst this
    exact ⟨none, 0, rfl, Nat.le_refl _, by simp [maxLen], SI.nil_, .inl ⟨rfl, rfl, rfl⟩⟩
  · have hg : g < w.heap.size := by
      rcases Nat.lt_or_ge g w.heap.size with hlt | hge
      · exact hlt
      · rw [Array.getElem?_eq_none hge] at hh; cases hh
    refine ⟨some ⟨g, 0, none⟩, cap, rfl, hnc, hcm, fun h0 => ⟨⟨g, 0, none⟩, rfl, hg, fun j hj => ?_⟩, .inr ⟨g, rfl, rfl, hbg, hg⟩⟩
    have := World.ownsRow.cells h' (g := g) rfl j (.int K zs[j]) (by simp [hj])
    exact this
theorem OI.keep (h : OI w base e K v zs) {row : Option Nat} (hg : w.grownBy w' row) (hne : v.ownBlock = none ∨ v.ownBlock ≠ row) : OI w' base e K v zs := World.ownsRow.kept h hg hne
theorem OI.up (h : OI w base e K v zs) (hu : Up w w') : OI w' base e K v zs :=
  h.keep (row := none) ⟨hu.os, hu.tape, hu.output, hu.size, fun k hk _ => hu.block k hk⟩ (by cases v.ownBlock <;> simp)
end

section
variable {P : Program} (w : World)
theorem run_append_nil' (base : Nat) (t ty e : TypeId) (i : TypeInfo) (ht : P.underlying t = some (.slice e)) (hi : P.info? e = some i)
    (v : Value) (n : Nat) (xs : List Value) (hown : w.ownsRow base e 1 v n xs) (c : Nat) : (Builtin.append_ #[t, t] ty #[v, .slice none 0 c]).run P w = .ok v w := by
  rcases hown.2 with ⟨rfl, rfl⟩ | ⟨g, cap, cur, rfl, _, _, hnc, _⟩
  · simp [Builtin.append_, run_underlying ht, sizeOf, typeInfo, hi, Builtin.lenOf, Builtin.firstCells]
  · simp [Builtin.append_, run_underlying ht, sizeOf, typeInfo, hi, Builtin.lenOf, Builtin.firstCells, hnc, storeCells]

/-- What an append of integers leaves. -/
structure Appended (w w' : World) (base : Nat) (e : TypeId) (K : IntKind) (v v' : Value) (zs : List Int) : Prop where
  own : OI w' base e K v' zs
  grown : w.grownBy w' v.ownBlock
  at_ : v'.ownBlock = v.ownBlock ∨ v'.ownBlock = some w.heap.size

theorem run_append_ints (base : Nat) (t ty e : TypeId) (K : IntKind) (T : IntTab P t e K) (v : Value) (xs : List Int) (hown : OI w base e K v xs)
    (B : Nat) (A : Option Addr) (c : Nat) (ys : List Int) (hr : SI w B K A ys) (hlen : xs.length + ys.length ≤ 17592186044416) (hbase : base ≤ w.heap.size) :
    ∃ v' w', (Builtin.append_ #[t, t] ty #[v, .slice A ys.length c]).run P w = .ok v' w' ∧ Appended w w' base e K v v' (xs ++ ys) := by
  obtain ⟨i, hi, hz, hs, hb⟩ := T.info
  rcases A with _ | ad
  · have hn : ys = [] := by
      cases ys with
      | nil => rfl
      | cons y ys => obtain ⟨ad, h, _⟩ := hr (by simp); cases h
    subst hn
    refine ⟨v, w, ?_, ⟨by rw [List.append_nil]; exact hown, World.grownBy.refl w _, .inl rfl⟩⟩
    exact run_append_nil' w base t ty e i T.und hi v _ _ hown c
  · obtain ⟨v', w', hrun, h2, h3, _, h5⟩ := run_append_own_at (P := P) w base t ty e i (.int K 0) 1 i.bytes T.und hi hz hs rfl rfl (by omega) v xs.length _ hown ad ys.length c (ys.map (Value.int K)) (by simp)
      (by
        intro j u hu
        by_cases hj : j < ys.length
        · obtain ⟨ad', h, _, hc⟩ := hr (by omega)
          injection h with h
          subst h
          rw [hc j hj]
          simpa [hj] using hu
        · simp [List.getElem?_eq_none (by omega : ys.length ≤ j)] at hu)
      (by intro u hu; simp at hu; obtain ⟨_, _, rfl⟩ := hu; rfl) (by simp only [maxLen]; omega)
      (Nat.le_trans (Nat.mul_le_mul (Nat.le_refl _) hb) (by omega)) hbase
    refine ⟨v', w', hrun, ⟨?_, h3, h5⟩⟩
    unfold OI
    rw [List.length_append, List.map_append]
    exact h2

end
section
variable {P : Program} {w : World}
theorem wpList_append_ints {ops : Array Oper} {rest : List Oper} {o : Oper} {a : Act} {Q : Exit → Act → World → Prop} (hgd : o.guard = none) (s x : Operand) (t : TypeId)
    (ho : o.op = .call { callee := .builtin .append, args := #[s, x], argTypes := #[t, t] })
    (base : Nat) (e : TypeId) (K : IntKind) (T : IntTab P t e K) (v : Value) (xs : List Int) (hs : a.eval s = v) (hown : OI w base e K v xs)
    (B : Nat) (A : Option Addr) (c : Nat) (ys : List Int) (hx : a.eval x = .slice A ys.length c) (hr : SI w B K A ys) (hlen : xs.length + ys.length ≤ 17592186044416) (hbase : base ≤ w.heap.size)
    (h : ∀ v' w', Appended w w' base e K v v' (xs ++ ys) → wpList P ops Q rest (a.put o.dst v') w') : wpList P ops Q (o :: rest) a w := by
  obtain ⟨v', w', hrun, hA⟩ := run_append_ints (P := P) w base t o.type e K T v xs hown B A c ys hr hlen hbase
  refine wpList_plain hgd fun _ hK => ?_
  unfold Oper.wp execOp
  simp only [ho, resolve, invoke, builtin, Sem.run_bind, Sem.run_pure, Result.andThen_ok, List.map_toArray, List.map_cons, List.map_nil, hs, hx, hrun]
  exact hK _ _ (h v' w' hA)
end
section
variable {P : Program} {w : World}
theorem up_of_grown {w' : World} (h : w.grownBy w' none) : Up w w' := ⟨h.os, h.tape, h.output, h.size, fun k hk => h.block k hk (by simp)⟩
/-- make([]T, 0, n). -/
theorem wpList_make0 {ops : Array Oper} {rest : List Oper} {o : Oper} {a : Act} {Q : Exit → Act → World → Prop} (hg : o.guard = none) (l c : Operand) (t : TypeId) (hop : o.op = Op.makeSlice t l c)
    (base : Nat) (e : TypeId) (K : IntKind) (T : IntTab P t e K) (kl kc : IntKind) (C : Int) (n : Nat) (hl : a.eval l = .int kl 0) (hc : a.eval c = .int kc C) (hC : C = (n : Int)) (hn : n ≤ 17592186044416) (hb : base ≤ w.heap.size)
    (hK : ∀ w', OI w' base e K (.slice (some ⟨w.heap.size, 0, none⟩) 0 n) [] → Up w w' → wpList P ops Q rest (a.put o.dst (.slice (some ⟨w.heap.size, 0, none⟩) 0 n)) w') :
    wpList P ops Q (o :: rest) a w := by
  obtain ⟨i, hi, hz, hs, hby⟩ := T.info
  exact wpList_make_own w hg l c t hop base e i _ 1 T.und hi hz hs kl kc C n hl hc hC (Nat.le_trans (Nat.mul_le_mul hby (Nat.le_refl n)) (by omega)) (by simp only [maxLen]; omega) hb
    fun w' h1 h2 => hK w' h1 (up_of_grown h2)
/-- make([]T, n). -/
theorem wpList_makeN {ops : Array Oper} {rest : List Oper} {o : Oper} {a : Act} {Q : Exit → Act → World → Prop} (hg : o.guard = none) (l c : Operand) (t : TypeId) (hop : o.op = Op.makeSlice t l c)
    (base : Nat) (e : TypeId) (K : IntKind) (T : IntTab P t e K) (kl kc : IntKind) (L C : Int) (n : Nat) (hl : a.eval l = .int kl L) (hc : a.eval c = .int kc C) (hL : L = (n : Int)) (hC : C = (n : Int)) (hn : n ≤ 17592186044416) (hb : base ≤ w.heap.size)
    (hK : ∀ w', OI w' base e K (.slice (some ⟨w.heap.size, 0, none⟩) n n) (List.replicate n 0) → Up w w' → wpList P ops Q rest (a.put o.dst (.slice (some ⟨w.heap.size, 0, none⟩) n n)) w') :
    wpList P ops Q (o :: rest) a w := by
  obtain ⟨i, hi, hz, hs, hby⟩ := T.info
  refine wpList_make_full w hg l c t hop base e i _ 1 T.und hi hz hs kl kc L C n hl hc hL hC (Nat.le_trans (Nat.mul_le_mul hby (Nat.le_refl n)) (by omega)) (by simp only [maxLen]; omega) hb
    fun w' h1 h2 => hK w' ?_ (up_of_grown h2)
  unfold OI
  rw [List.length_replicate, List.map_replicate]
  have e : (madeCells (Value.int K 0).cells (n * 1)).toList = List.replicate n (Value.int K 0) := by
    rw [Nat.mul_one]
    exact toList_madeCells_one _ _
  rwa [e] at h1
end
/-- A row of the call's own that fills its block. -/
theorem OI.blk {w : World} {base : Nat} {e : TypeId} {K : IntKind} {g : Nat} {zs : List Int} (h : OI w base e K (.slice (some ⟨g, 0, none⟩) zs.length zs.length) zs) : Blk w g e (zs.map (Value.int K)).toArray ∧ base ≤ g := by
  unfold OI at h
  obtain ⟨h1, h2⟩ := h
  rcases h2 with ⟨h2, _⟩ | ⟨g', cap, cur, hv, hbg, hh, hnc, hcm, hcs, hcur⟩
  · injection h2 with h2; cases h2
  · injection hv with hv hv2 hv3
    injection hv with hv
    injection hv with hv
    subst hv
    rw [← hv3, Nat.mul_one] at hcs
    rw [Nat.mul_one, List.take_of_length_le (by simp [hcs])] at hcur
    refine ⟨?_, hbg⟩
    unfold Blk
    rw [hh, ← hcur]
section
variable {P : Program} {w : World}
theorem wpList_makeB {ops : Array Oper} {rest : List Oper} {o : Oper} {a : Act} {Q : Exit → Act → World → Prop} (hg : o.guard = none) (l c : Operand) (t : TypeId) (hop : o.op = Op.makeSlice t l c)
    (e : TypeId) (K : IntKind) (T : IntTab P t e K) (kl kc : IntKind) (L C : Int) (n : Nat) (hl : a.eval l = .int kl L) (hc : a.eval c = .int kc C) (hL : L = (n : Int)) (hC : C = (n : Int)) (hn : n ≤ 17592186044416)
    (hK : ∀ w', Blk w' w.heap.size e ((List.replicate n (0 : Int)).map (Value.int K)).toArray → Up w w' → wpList P ops Q rest (a.put o.dst (.slice (some ⟨w.heap.size, 0, none⟩) n n)) w') :
    wpList P ops Q (o :: rest) a w :=
  wpList_makeN hg l c t hop w.heap.size e K T kl kc L C n hl hc hL hC hn (Nat.le_refl _) fun w' h1 h2 =>
    hK w' (OI.blk (by rw [List.length_replicate]; exact h1)).1 h2
end
theorem Appended.below {w w' : World} {base : Nat} {e : TypeId} {K : IntKind} {v v' : Value} {zs xs : List Int} {w0 : World} (h : Appended w w' base e K v v' zs) (hb : Below base w0 w) (ho : OI w base e K v xs) (hB : base ≤ w.heap.size) : Below base w0 w' :=
  hb.grown h.grown hB (fun k hk => (World.ownsRow.lt ho k hk).1)
end Go.Proofs.Ytoedmnalnpmleaa
