/-
  append(xs, make([]T, k)...): a row of the call's own grows by k zeros.
-/
import Derived.Test.YtefiapjfiojaoaaDoorPA
namespace Go.Proofs.YtefiapjfiojaoaaDoor
open Go Go.RowKit

theorem zeroCells_one (z : Value) (hz : z.cells = #[z]) (k : Nat) : (Builtin.zeroCells z.cells k).toList = List.replicate k z := by
  rw [hz]
  unfold Builtin.zeroCells
  simp only [List.size_toArray, List.length_cons, List.length_nil, Nat.mul_one, Nat.zero_add]
  apply List.ext_getElem?
  intro j
  by_cases hj : j < k
  · simp [hj, Nat.mod_one]
  · simp [hj]

section
variable {P : Program} (w : World)
theorem run_zeros_grow (t u ty e : TypeId) (i : TypeInfo) (K : IntKind) (ht : P.underlying t = some (.slice e)) (hu : P.underlying u = some (.int .i64)) (hi : P.info? e = some i) (hz : i.zero = some (.int K 0)) (hsz : i.size = 1) (hby : i.bytes ≤ 8)
    (v : Value) (sLen sCap : Nat) (olds : List Value) (A : Option Addr) (hv : v = .slice A sLen sCap) (hlo : olds.length = sLen) (holds : ∀ j v, olds[j]? = some v → ∃ b, A = some b ∧ w.cell? (b.add j) = some v)
    (k : Nat) (hk : k ≤ 1000) (hs : sLen ≤ 1000000) (hg : sCap < sLen + k) :
    (Builtin.append_ #[t, u] ty #[v, .int .i64 k]).run P w =
      .ok (.slice (some ⟨w.heap.size, 0, none⟩) (sLen + k) (grownCap w (sLen + k) sCap e))
        (w.drew.alloc (.cells (olds.toArray ++ Builtin.zeroCells (Value.int K 0).cells k ++ Builtin.zeroCells (Value.int K 0).cells (grownCap w (sLen + k) sCap e - (sLen + k))) e)) := by
  subst hv
  have hn : ¬ (sLen + k ≤ sCap) := by omega
  have h63' : ¬ (9223372036854775807 < ((sLen : Int) + (k : Int))) := by omega
  have h48' : ¬ (281474976710656 < Builtin.nextslicecap (sLen + k) sCap * i.bytes) := by
    have := growslice_fits (bytes := i.bytes) hg (Nat.le_trans (Nat.mul_le_mul (Nat.le_refl _) hby) (by omega))
    omega
  have hfo : (Builtin.firstCells i.size sLen (.slice A sLen sCap)).run P w.drew = .ok olds.toArray w.drew := by
    rcases A with _ | b
    · have : olds = [] := by
        cases olds with
        | nil => rfl
        | cons y ys => obtain ⟨b, h, _⟩ := holds 0 y rfl; cases h
      subst this
      exact run_firstCells_none w.drew _ _ _ _
    · refine run_firstCells_some (P := P) w.drew i.size sLen b sLen sCap olds (by rw [hlo, hsz, Nat.mul_one]) fun j v hj => ?_
      obtain ⟨b', h, hc⟩ := holds j v hj
      injection h with h
      subst h
      exact hc
  rw [hsz] at hfo
  have hw : IntKind.i64.wrap (k : Int) = k := IntWalk.i64_in _ (by omega)
  have hai : ∀ W : World, (asIntOf (.int .i64 (k : Int))).run P W = .ok (.i64, (k : Int)) W := fun W => rfl
  have hk0 : ¬ ((k : Int) < 0) := by omega
  have hkb : ¬ (281474976710656 < (k : Int) * (i.bytes : Int)) := by
    have h1 : k * i.bytes ≤ 1000 * 8 := Nat.mul_le_mul hk hby
    have h2 : ((k * i.bytes : Nat) : Int) ≤ 8000 := by omega
    rw [Int.natCast_mul] at h2
    omega
  by_cases hk1 : k = 0
  · subst hk1
    have hai0 : ∀ W : World, (asIntOf (.int .i64 0)).run P W = .ok (.i64, 0) W := fun W => rfl
    have hw0 : IntKind.i64.wrap 0 = 0 := by decide
    have hn0 : ¬ (sLen ≤ sCap) := by omega
    have hz00 : Builtin.zeroCells (Value.int K 0).cells 0 = #[] := by simp [Builtin.zeroCells]
    have h630 : ¬ (9223372036854775807 < (sLen : Int)) := by omega
    rw [Nat.add_zero] at h48'
    simp [hai0, hw0, hn0, h630, Builtin.append_, run_underlying ht, run_underlying hu, sizeOf, typeInfo, zeroValue, hi, hz, hsz, hn, h63', h48', Question.forced, hfo, newRow, grownCap, asInt, hai, hw, hk0, hkb, hz00]
  · simp [Builtin.append_, run_underlying ht, run_underlying hu, sizeOf, typeInfo, zeroValue, hi, hz, hsz, hn, h63', h48', Question.forced, hfo, newRow, grownCap, asInt, hai, hw, hk0, hkb, hk1]
theorem run_zeros_room (t u ty e : TypeId) (i : TypeInfo) (K : IntKind) (ht : P.underlying t = some (.slice e)) (hu : P.underlying u = some (.int .i64)) (hi : P.info? e = some i) (hz : i.zero = some (.int K 0)) (hsz : i.size = 1) (hby : i.bytes ≤ 8)
    (g sLen sCap : Nat) (cur : Array Value) (hg : w.heap[g]? = some (.cells cur e (0, 0))) (k : Nat) (hk : k ≤ 1000) (hroom : sLen + k ≤ sCap) (hfit : sLen + k ≤ cur.size) :
    (Builtin.append_ #[t, u] ty #[.slice (some ⟨g, 0, none⟩) sLen sCap, .int .i64 k]).run P w =
      .ok (.slice (some ⟨g, 0, none⟩) (sLen + k) sCap) (w.setRow g (cur.toList.take sLen ++ List.replicate k (Value.int K 0) ++ cur.toList.drop (sLen + k)).toArray) := by
  have hst := run_storeCells_at P g sLen e (List.replicate k (Value.int K 0)) 0 cur w hg (by simpa using hfit) (by intro v hv; rw [(List.mem_replicate.1 hv).2]; rfl)
  simp only [Nat.add_zero, List.length_replicate] at hst
  have hzc : (Builtin.zeroCells (Value.int K 0).cells k).toList = List.replicate k (Value.int K 0) := zeroCells_one _ rfl k
  have hw : IntKind.i64.wrap (k : Int) = k := IntWalk.i64_in _ (by omega)
  have hai : ∀ W : World, (asIntOf (.int .i64 (k : Int))).run P W = .ok (.i64, (k : Int)) W := fun W => rfl
  have hk0 : ¬ ((k : Int) < 0) := by omega
  have hkb : ¬ (281474976710656 < (k : Int) * (i.bytes : Int)) := by
    have h1 : k * i.bytes ≤ 1000 * 8 := Nat.mul_le_mul hk hby
    have h2 : ((k * i.bytes : Nat) : Int) ≤ 8000 := by omega
    rw [Int.natCast_mul] at h2
    omega
  by_cases hk1 : k = 0
  · subst hk1
    have hai0 : ∀ W : World, (asIntOf (.int .i64 0)).run P W = .ok (.i64, 0) W := fun W => rfl
    have hw0 : IntKind.i64.wrap 0 = 0 := by decide
    simp only [List.replicate_zero, List.append_nil, Nat.add_zero] at hst ⊢
    have hr0 : sLen ≤ sCap := by omega
    simp [hai0, hw0, hr0, Builtin.append_, run_underlying ht, run_underlying hu, sizeOf, typeInfo, zeroValue, hi, hz, hsz, hroom, asInt, hai, hw, hk0, hkb, Addr.add_lit, hst]
  · simp [Builtin.append_, run_underlying ht, run_underlying hu, sizeOf, typeInfo, zeroValue, hi, hz, hsz, hroom, asInt, hai, hw, hk0, hkb, hk1, Addr.add_lit, hzc, hst]

theorem run_append_zeros (base : Nat) (t u ty e : TypeId) (K : IntKind) (T : IntTab P t e K) (hu : P.underlying u = some (.int .i64)) (v : Value) (xs : List Int) (hown : OI w base e K v xs)
    (k : Nat) (hk : k ≤ 1000) (hlen : xs.length ≤ 1000000) (hbase : base ≤ w.heap.size) :
    ∃ v' w', (Builtin.append_ #[t, u] ty #[v, .int .i64 k]).run P w = .ok v' w' ∧ Appended w w' base e K v v' (xs ++ List.replicate k 0) := by
  obtain ⟨i, hi, hz, hs, hb⟩ := T.info
  have hmap : (xs ++ List.replicate k 0).map (Value.int K) = xs.map (Value.int K) ++ List.replicate k (Value.int K 0) := by rw [List.map_append, List.map_replicate]
  have hzc : (Builtin.zeroCells (Value.int K 0).cells k).toList = List.replicate k (Value.int K 0) := zeroCells_one _ rfl k
  have hgrow : ∀ (A : Option Addr) (cap : Nat), v = .slice A xs.length cap → cap < xs.length + k → (∀ j u, (xs.map (Value.int K))[j]? = some u → ∃ b, A = some b ∧ w.cell? (b.add j) = some u) →
      ∃ v' w', (Builtin.append_ #[t, u] ty #[v, .int .i64 k]).run P w = .ok v' w' ∧ Appended w w' base e K v v' (xs ++ List.replicate k 0) := by
    intro A cap hv hlt holds
    have hr := run_zeros_grow (P := P) w t u ty e i K T.und hu hi hz hs hb v xs.length cap (xs.map (Value.int K)) A hv (by simp) holds k hk hlen hlt
    refine ⟨_, _, hr, ⟨?_, ?_, .inr rfl⟩⟩
    · have hge := grownCap_ge w (xs.length + k) cap e
      have hcm : grownCap w (xs.length + k) cap e ≤ maxLen := grownCap_le_maxLen w (xs.length + k) cap e (by simp only [maxLen]; omega)
      unfold OI
      rw [List.length_append, List.length_replicate, hmap]
      refine ⟨by simp, .inr ⟨w.heap.size, _, _, rfl, hbase, heap_alloc_new w.drew _, hge, hcm, ?_, ?_⟩⟩
      · simp only [Array.size_append, List.size_toArray, size_zeroCells, List.length_map]
        rw [show (Value.int K 0).cells.size = 1 from rfl]
        omega
      · simp only [Array.toList_append, hzc, Nat.mul_one]
        rw [show xs.length + k = (xs.map (Value.int K) ++ List.replicate k (Value.int K 0)).length by simp]
        exact List.take_left
    · exact ⟨rfl, rfl, rfl, by simp, fun j hj _ => _root_.Go.heap_alloc_old w.drew _ (by simpa using hj)⟩
  rcases hown.2 with ⟨rfl, hx⟩ | ⟨g, cap, cur, rfl, hbg, hg, hnc, hcm, hcs, htake⟩
  · have hxs : xs = [] := List.eq_nil_of_length_eq_zero hx
    subst hxs
    by_cases hk0 : k = 0
    · subst hk0
      have hai : ∀ W : World, (asIntOf (.int .i64 ((0 : Nat) : Int))).run P W = .ok (.i64, 0) W := fun W => rfl
      have hw : IntKind.i64.wrap 0 = 0 := by decide
      refine ⟨.slice none 0 0, w, ?_, ⟨hown, World.grownBy.refl w _, .inl rfl⟩⟩
      simp [Builtin.append_, run_underlying T.und, run_underlying hu, sizeOf, typeInfo, zeroValue, hi, hz, hs, asInt, asIntOf, hw]
    · exact hgrow none 0 rfl (by simp; omega) (by intro j u h; simp at h)
  · by_cases hroom : xs.length + k ≤ cap
    · have hr := run_zeros_room (P := P) w t u ty e i K T.und hu hi hz hs hb g xs.length cap cur hg k hk hroom (by rw [hcs]; omega)
      refine ⟨_, _, hr, ⟨?_, ⟨rfl, rfl, rfl, by simp, fun j _ hj => setRow_other w g j _ (fun e => hj (by simp [Value.ownBlock, e]))⟩, .inl rfl⟩⟩
      unfold OI
      rw [List.length_append, List.length_replicate, hmap]
      refine ⟨by simp, .inr ⟨g, cap, _, rfl, hbg, setRow_heap w g cur _ e _ hg, hroom, hcm, ?_, ?_⟩⟩
      · simp only [List.size_toArray, List.length_append, List.length_take, List.length_drop, Array.length_toList, List.length_replicate]
        omega
      · rw [show cur.toList.take xs.length = xs.map (Value.int K) by rw [← htake, Nat.mul_one]]
        rw [show (xs.length + k) * 1 = (xs.map (Value.int K) ++ List.replicate k (Value.int K 0)).length by simp]
        exact List.take_left
    · refine hgrow (some ⟨g, 0, none⟩) cap rfl (by omega) fun j u hj => ⟨_, rfl, World.ownsRow.cells hown (g := g) rfl j u hj⟩
end
section
variable {P : Program} {w : World}
theorem wpList_append_zeros {ops : Array Oper} {rest : List Oper} {o : Oper} {a : Act} {Q : Exit → Act → World → Prop} (hgd : o.guard = none) (s x : Operand) (t u : TypeId)
    (ho : o.op = .call { callee := .builtin .append, args := #[s, x], argTypes := #[t, u] })
    (base : Nat) (e : TypeId) (K : IntKind) (T : IntTab P t e K) (hu : P.underlying u = some (.int .i64)) (v : Value) (xs : List Int) (hs : a.eval s = v) (hown : OI w base e K v xs)
    (k : Nat) (hx : a.eval x = .int .i64 k) (hk : k ≤ 1000) (hlen : xs.length ≤ 1000000) (hbase : base ≤ w.heap.size)
    (h : ∀ v' w', Appended w w' base e K v v' (xs ++ List.replicate k 0) → wpList P ops Q rest (a.put o.dst v') w') : wpList P ops Q (o :: rest) a w := by
  obtain ⟨v', w', hrun, hA⟩ := run_append_zeros (P := P) w base t u o.type e K T hu v xs hown k hk hlen hbase
  refine wpList_plain hgd fun _ hK => ?_
  unfold Oper.wp execOp
  simp only [ho, resolve, invoke, builtin, Sem.run_bind, Sem.run_pure, Result.andThen_ok, List.map_toArray, List.map_cons, List.map_nil, hs, hx, hrun]
  exact hK _ _ (h v' w' hA)
end
end Go.Proofs.YtefiapjfiojaoaaDoor
