/-
  append of rational numbers onto a slice of the call's own.
-/
import Derived.Test.YtkngegcfdabpoaaLList
namespace Go.Proofs.Ytkngegcfdabpoaa
open Go.RowKit

/-- The slice value's block holds no integers. -/
def NoI (w : World) (v : Value) : Prop := ∀ g, v.ownBlock = some g → ∀ (p : Addr) (k : IntKind) (z : Int), p.block = g → w.cell? p ≠ some (.int k z)
/-- The slice value v owns a row of the numbers ps, in a block from base on. -/
def AX (o : Option Nat) (w : World) (base : Nat) (v : Value) (ps : List Rat) : Prop := ∃ vs, w.ownsRow base 31 3 v vs.length (cs3 vs) ∧ LX o w vs ps ∧ NoI w v
section
variable {o : Option Nat} {w w' : World} {base : Nat} {v : Value} {ps : List Rat}
theorem AX.nil_ : AX o w base (.slice none 0 0) [] := ⟨[], World.ownsRow_nil _ _ _ _, LX.nil_, fun g h => by simp [Value.ownBlock] at h⟩
theorem AX.up (h : AX o w base v ps) (hu : Up w w') : AX o w' base v ps := by
  obtain ⟨vs, h1, h2, h3⟩ := h
  refine ⟨vs, World.ownsRow.kept h1 (row := none) ⟨hu.os, hu.tape, hu.output, hu.size, fun k hk _ => hu.block k hk⟩ (by cases v.ownBlock <;> simp), h2.up hu, fun g hg p k z hp hc => ?_⟩
  have hlt := (World.ownsRow.lt h1 g hg).2
  refine h3 g hg p k z hp ?_
  rw [← hc]; exact (hu.cell (by rw [hp]; exact hlt)).symm
theorem AX.rx (h : AX o w base v ps) : ∃ A c, v = .slice A ps.length c ∧ ps.length ≤ c ∧ c ≤ 9223372036854775807 ∧ RX o w A ps := by
  obtain ⟨vs, h1, h2, h3⟩ := h
  have h1' := h1
  obtain ⟨hl, h1⟩ := h1
  rcases h1 with ⟨rfl, hn⟩ | ⟨g, cap, cur, rfl, hbg, hh, hnc, hcm, hcs, hcur⟩
  · have e : ps = [] := by have := h2.1; exact List.eq_nil_of_length_eq_zero (by omega)
    subst e
    exact ⟨none, 0, rfl, Nat.le_refl _, by omega, RX.nil_⟩
  · refine ⟨some ⟨g, 0, none⟩, cap, by rw [← h2.1], by rw [← h2.1]; exact hnc, by simpa [maxLen] using hcm, vs, fun h0 => ?_, h2⟩
    have hg := (World.ownsRow.lt h1' g rfl).2
    refine ⟨g, 0, rfl, hg, fun j hj => ?_⟩
    obtain ⟨s, X, n, c, Y, m, d, hv⟩ := (h2.2 j hj).shp
    have hcell : ∀ i u, i < 3 → (c3 vs[j])[i]? = some u → w.cell? ⟨g, 0 + j * 3 + i, none⟩ = some u := fun i u hi hu => by
      have := World.ownsRow.cellAt h1' (0 + j * 3 + i) (by omega)
      rw [this, Nat.zero_add, cs3_get vs j i hj hi]; exact hu
    rw [hv] at hcell
    exact ⟨s, X, n, c, Y, m, d, hv, hcell 0 _ (by omega) rfl, hcell 1 _ (by omega) rfl, hcell 2 _ (by omega) rfl⟩
theorem AX.own_lt (h : AX o w base v ps) : ∀ k, v.ownBlock = some k → base ≤ k ∧ k < w.heap.size := by
  obtain ⟨vs, h1, _⟩ := h
  exact World.ownsRow.lt h1
/-- Kept while another block is written. -/
theorem AX.keep {r : Option Nat} (h : AX o w base v ps) (hg : w.grownBy w' r) (hk : Kp w w') (hne : v.ownBlock = none ∨ v.ownBlock ≠ r) : AX o w' base v ps := by
  obtain ⟨vs, h1, h2, h3⟩ := h
  refine ⟨vs, World.ownsRow.kept h1 hg hne, h2.kp hk, fun g hv p k z hp hc => ?_⟩
  have hlt := (World.ownsRow.lt h1 g hv).2
  refine h3 g hv p k z hp ?_
  have hne' : some g ≠ r := by rcases hne with e | e; · rw [hv] at e; cases e
                               · rw [hv] at e; exact e
  rw [← hc]
  exact (World.cell?_of_block (hg.block p.block (by rw [hp]; exact hlt) (by rw [hp]; exact hne'))).symm
end
theorem noint_zeroCells (n : Nat) : ∀ u ∈ (Builtin.zeroCells zeroR.cells n).toList, ∀ k z, u ≠ .int k z := by
  intro u hu k z
  simp only [Builtin.zeroCells, Array.toList_map, Array.toList_range, List.mem_map, List.mem_range] at hu
  obtain ⟨i, _, rfl⟩ := hu
  have : i % zeroR.cells.size < 3 := Nat.mod_lt _ (by decide)
  match hm : i % zeroR.cells.size, this with
  | 0, _ => intro h; simp [zeroR, Value.cells] at h
  | 1, _ => intro h; simp [zeroR, Value.cells] at h
  | 2, _ => intro h; simp [zeroR, Value.cells] at h
theorem spot_none {w : World} {p : Addr} {v : Value} (h : w.cell? p = some v) : p.spot = none := by
  unfold World.cell? at h
  split at h
  · split at h
    · cases h
    · rename_i hs; cases hp : p.spot <;> simp_all
  · cases h
/-- What an append leaves. -/
structure AppX (o : Option Nat) (w w' : World) (base : Nat) (v v' : Value) (ps : List Rat) : Prop where
  own : AX o w' base v' ps
  kp : Kp w w'
  grown : w.grownBy w' v.ownBlock
  at_ : v'.ownBlock = v.ownBlock ∨ v'.ownBlock = some w.heap.size

theorem noi_alloc {w : World} {cs : Array Value} {t : TypeId} (h : ∀ u ∈ cs.toList, ∀ k z, u ≠ .int k z) (n c : Nat) : NoI (w.alloc (.cells cs t)) (.slice (some ⟨w.heap.size, 0, none⟩) n c) := by
  intro g hg p k z hp hc
  simp [Value.ownBlock] at hg
  subst hg
  obtain ⟨b, i, s⟩ := p
  simp only at hp
  subst hp
  have hb : Blk (w.alloc (.cells cs t)) w.heap.size t cs := Blk.new w t cs
  cases s with
  | some s => have := spot_none hc; cases this
  | none =>
    rw [hb.cell i] at hc
    exact h _ (by simpa using Array.mem_of_getElem? hc) k z rfl

theorem run_append_rats (ty : TypeId) {o : Option Nat} {w : World} {base : Nat} {v : Value} {ps : List Rat} (h : AX o w base v ps) {A : Option Addr} {qs : List Rat} (hr : RX o w A qs) (c : Nat) (hc : A = none → c = 0)
    (hlen : ps.length + qs.length ≤ 1000000) (hbase : base ≤ w.heap.size) :
    ∃ v' w', (Builtin.append_ #[22, 22] ty #[v, .slice A qs.length c]).run Try.prog w = .ok v' w' ∧ AppX o w w' base v v' (ps ++ qs) := by
  obtain ⟨i, hi, hz0, hz1, hz2⟩ := info_parts rat_tab
  have ht : Try.prog.underlying 22 = some (.slice 31) := Try.underlying22
  obtain ⟨vs, h1, h2, h3⟩ := h
  obtain ⟨us, e1, e2⟩ := hr
  have hql := e2.1
  have hpl := h2.1
  rw [← hql]
  rcases A with _ | a
  · have hn : us = [] := by
      cases us with
      | nil => rfl
      | cons y ys => obtain ⟨b, off, h, _⟩ := e1 (by simp); cases h
    subst hn
    have hq0 : qs = [] := List.eq_nil_of_length_eq_zero (by simpa using hql.symm)
    subst hq0
    rw [hc rfl]
    exact ⟨v, w, run_append_owned_none w base _ ty _ i 3 ht hi v _ _ h1, ⟨by rw [List.append_nil]; exact ⟨vs, h1, h2, h3⟩, Kp.refl w, World.grownBy.refl w _, .inl rfl⟩⟩
  by_cases hu0 : us.length = 0
  · have hn : us = [] := List.eq_nil_of_length_eq_zero hu0
    subst hn
    have hq0 : qs = [] := List.eq_nil_of_length_eq_zero (by simpa using hql.symm)
    subst hq0
    refine ⟨v, w, ?_, ⟨by rw [List.append_nil]; exact ⟨vs, h1, h2, h3⟩, Kp.refl w, World.grownBy.refl w _, .inl rfl⟩⟩
    rcases h1.2 with ⟨rfl, _⟩ | ⟨g, cap, cur, rfl, _, _, hnc, _⟩
    · simp [Builtin.append_, run_underlying ht, sizeOf, typeInfo, hi, Builtin.lenOf, Builtin.firstCells, loadCells, loadCellsFrom]
    · simp [Builtin.append_, run_underlying ht, sizeOf, typeInfo, hi, Builtin.lenOf, Builtin.firstCells, loadCells, loadCellsFrom, hnc, storeCells]
  obtain ⟨b, off, ea, hb, hel⟩ := e1 (by omega)
  injection ea with ea
  subst ea
  have hnl : (cs3 us).length = us.length * i.size := by rw [hz1]; exact cs3_len us
  have hnews : ∀ j u, (cs3 us)[j]? = some u → w.cell? ((⟨b, off, none⟩ : Addr).add j) = some u := by
    intro j u hu
    have hj : j < us.length * 3 := by
      rw [← cs3_len]
      exact (List.getElem?_eq_some_iff.1 hu).1
    obtain ⟨s, X, n, c', Y, m, d, hv, c0, c1, c2⟩ := hel (j / 3) (by omega)
    have hg := cs3_get us (j / 3) (j % 3) (by omega) (Nat.mod_lt _ (by omega))
    rw [show j / 3 * 3 + j % 3 = j from by omega, hu, hv] at hg
    have ha : (⟨b, off, none⟩ : Addr).add j = ⟨b, off + j / 3 * 3 + j % 3, none⟩ := by
      have e : off + j / 3 * 3 + j % 3 = off + j := by omega
      rw [e]; unfold Addr.add; split <;> simp_all
    rw [ha]
    have h3' : j % 3 < 3 := Nat.mod_lt _ (by omega)
    match hm : j % 3, h3' with
    | 0, _ => rw [hm] at hg; simp [c3, Value.cells] at hg; rw [hg]; exact c0
    | 1, _ => rw [hm] at hg; simp [c3, Value.cells] at hg; rw [hg]; exact c1
    | 2, _ => rw [hm] at hg; simp [c3, Value.cells] at hg; rw [hg]; exact c2
  have hx3 : (cs3 vs).length = vs.length * i.size := by rw [hz1]; exact cs3_len vs
  have hone : ∀ u ∈ cs3 us, u.oneCell' = true := fun u hu => (cs3_one e2.shp u hu).1
  -- what the growing arms leave
  have grown : ∀ (old : Nat), (Up w (w.drew.alloc (.cells ((cs3 vs).toArray ++ (cs3 us).toArray ++ Builtin.zeroCells zeroR.cells (grownCap w (vs.length + us.length) old 31 - (vs.length + us.length))) 31))) ∧
      AppX o w (w.drew.alloc (.cells ((cs3 vs).toArray ++ (cs3 us).toArray ++ Builtin.zeroCells zeroR.cells (grownCap w (vs.length + us.length) old 31 - (vs.length + us.length))) 31)) base v
        (.slice (some ⟨w.heap.size, 0, none⟩) (vs.length + us.length) (grownCap w (vs.length + us.length) old 31)) (ps ++ qs) := by
    intro old
    have hge := grownCap_ge w (vs.length + us.length) old 31
    have hcm : grownCap w (vs.length + us.length) old 31 ≤ maxLen := grownCap_le_maxLen w _ old _ (by simp only [maxLen]; omega)
    have hU : Up w (w.drew.alloc (.cells ((cs3 vs).toArray ++ (cs3 us).toArray ++ Builtin.zeroCells zeroR.cells (grownCap w (vs.length + us.length) old 31 - (vs.length + us.length))) 31)) := Below.alloc (Up.refl w).drew (Nat.le_refl _) _
    refine ⟨hU, ⟨⟨vs ++ us, ?_, (h2.up hU).append (e2.up hU), ?_⟩, Kp.of hU, ⟨hU.os, hU.tape, hU.output, hU.size, fun k hk _ => hU.block k hk⟩, .inr rfl⟩⟩
    · rw [cs3_append, List.length_append]
      refine ⟨by rw [List.length_append, cs3_len, cs3_len, Nat.add_mul], .inr ⟨w.heap.size, _, _, rfl, hbase, heap_alloc_new w.drew _, hge, hcm, ?_, ?_⟩⟩
      · have e3 : zeroR.cells.size = 3 := rfl
        simp only [Array.size_append, List.size_toArray, size_zeroCells, cs3_len, e3, ← Nat.add_mul]
        congr 1
        omega
      · simp only [Array.toList_append, List.append_assoc]
        rw [← List.append_assoc]
        have e4 : (vs.length + us.length) * 3 = (cs3 vs ++ cs3 us).length := by rw [List.length_append, cs3_len, cs3_len, Nat.add_mul]
        rw [e4]
        exact List.take_left
    · refine noi_alloc (w := w.drew) (fun u hu k z => ?_) _ _
      simp only [Array.toList_append, List.mem_append] at hu
      rcases hu with (hu | hu) | hu
      · exact (cs3_one h2.shp u hu).2 k z
      · exact (cs3_one e2.shp u hu).2 k z
      · exact noint_zeroCells _ u hu k z
  rcases h1.2 with ⟨rfl, hv0⟩ | ⟨g, cap, cur, rfl, hbg, hg, hnc, hcm, hcs, htake⟩
  · have hvs : vs = [] := List.eq_nil_of_length_eq_zero hv0
    subst hvs
    have hr := run_append_nil (P := Try.prog) w 22 ty 31 i zeroR ht hi hz0 ⟨b, off, none⟩ us.length c (cs3 us) hnl hnews (by omega) (by omega) (by rw [hz2]; omega)
    have hgr := grown 0
    simp only [List.length_nil, Nat.zero_add, show cs3 [] = [] from rfl, Array.empty_append] at hgr
    exact ⟨_, _, hr, hgr.2⟩
  · by_cases hroom : vs.length + us.length ≤ cap
    · have hfit : vs.length * i.size + (cs3 us).length ≤ cur.size := by rw [hnl, hz1, hcs, ← Nat.add_mul]; exact Nat.mul_le_mul_right _ hroom
      have hr := run_append_room (P := Try.prog) w 22 ty 31 i ht hi g vs.length cap cur hg ⟨b, off, none⟩ us.length c (cs3 us) hnl hnews hone hroom hfit
      have hcur : ∀ u ∈ cur.toList, ∀ k z, u ≠ .int k z := by
        intro u hu k z e
        obtain ⟨j, hj, rfl⟩ := List.getElem_of_mem hu
        refine h3 g rfl ⟨g, j, none⟩ k z rfl ?_
        rw [cell_of_row w g j cur _ (0, 0) hg, ← e]
        simp at hj ⊢
      have hgb : w.grownBy (w.setRow g (cur.toList.take (vs.length * i.size) ++ cs3 us ++ cur.toList.drop (vs.length * i.size + (cs3 us).length)).toArray) (some g) :=
        ⟨rfl, rfl, rfl, by simp, fun k _ hk => setRow_other w g k _ (fun e => hk (by simp [e]))⟩
      have hkp : Kp w (w.setRow g (cur.toList.take (vs.length * i.size) ++ cs3 us ++ cur.toList.drop (vs.length * i.size + (cs3 us).length)).toArray) :=
        kp_of_grown hgb fun g' e => by injection e with e; subst e; exact h3 g rfl
      refine ⟨_, _, hr, ⟨⟨vs ++ us, ?_, (h2.kp hkp).append (e2.kp hkp), ?_⟩, hkp, hgb, .inl rfl⟩⟩
      · rw [cs3_append, List.length_append]
        refine ⟨by rw [List.length_append, cs3_len, cs3_len, Nat.add_mul], .inr ⟨g, cap, _, rfl, hbg, setRow_heap w g cur _ _ _ hg, hroom, hcm, ?_, ?_⟩⟩
        · rw [hz1] at hfit ⊢
          simp only [List.size_toArray, List.length_append, List.length_take, List.length_drop, Array.length_toList]
          omega
        · rw [hz1, htake]
          have e4 : (vs.length + us.length) * 3 = (cs3 vs ++ cs3 us).length := by rw [List.length_append, cs3_len, cs3_len, Nat.add_mul]
          rw [e4]
          exact List.take_left
      · intro g' hg' p k z hp hc'
        simp [Value.ownBlock] at hg'
        subst hg'
        obtain ⟨pb, pi, ps'⟩ := p
        simp only at hp
        subst hp
        have hh := setRow_heap w pb cur (cur.toList.take (vs.length * i.size) ++ cs3 us ++ cur.toList.drop (vs.length * i.size + (cs3 us).length)).toArray _ _ hg
        cases ps' with
        | some sp => have := spot_none hc'; cases this
        | none =>
          rw [cell_of_row _ pb pi _ _ (0, 0) hh, List.getElem?_toArray] at hc'
          have hm := List.mem_of_getElem? hc'
          simp only [List.mem_append] at hm
          rcases hm with (hm | hm) | hm
          · exact hcur _ (List.mem_of_mem_take hm) k z rfl
          · exact (cs3_one e2.shp _ hm).2 k z rfl
          · exact hcur _ (List.mem_of_mem_drop hm) k z rfl
    · have holds : ∀ j u, (cs3 vs)[j]? = some u → w.cell? ((⟨g, 0, none⟩ : Addr).add j) = some u := h1.cells (g := g) rfl
      have hr := run_append_grow (P := Try.prog) w 22 ty 31 i zeroR ht hi hz0 ⟨g, 0, none⟩ vs.length cap (cs3 vs) hx3 holds ⟨b, off, none⟩ us.length c (cs3 us) hnl hnews (by omega) (by omega) (growslice_fits (by omega) (by rw [hz2]; omega))
      exact ⟨_, _, hr, (grown cap).2⟩

section
variable {w : World}
/-- The operation append. -/
theorem oper_append_rats {o : Oper} {a : Act} {K : Act → World → Prop} {Q : Exit → Act → World → Prop} (s x : Operand)
    (ho : o.op = .call { callee := .builtin .append, args := #[s, x], argTypes := #[22, 22] })
    {m : Option Nat} {base : Nat} {v : Value} {ps : List Rat} (hs : a.eval s = v) (h : AX m w base v ps) {A : Option Addr} {qs : List Rat} {n c : Nat} (hx : a.eval x = .slice A n c) (hn : n = qs.length) (hr : RX m w A qs) (hc : A = none → c = 0)
    (hlen : ps.length + qs.length ≤ 1000000) (hbase : base ≤ w.heap.size) (hK : ∀ v' w', AppX m w w' base v v' (ps ++ qs) → K (a.put o.dst v') w') : Oper.wp Try.prog o a w K Q := by
  subst hn
  obtain ⟨v', w', hrun, hA⟩ := run_append_rats o.type h hr c hc hlen hbase
  unfold Oper.wp execOp
  simp only [ho, resolve, invoke, builtin, Sem.run_bind, Sem.run_pure, Result.andThen_ok, List.map_toArray, List.map_cons, List.map_nil, hs, hx, hrun]
  exact hK v' w' hA
theorem wpList_append_rats {ops : Array Oper} {rest : List Oper} {o : Oper} {a : Act} {Q : Exit → Act → World → Prop} (hgd : o.guard = none) (s x : Operand)
    (ho : o.op = .call { callee := .builtin .append, args := #[s, x], argTypes := #[22, 22] })
    {m : Option Nat} {base : Nat} {v : Value} {ps : List Rat} (hs : a.eval s = v) (h : AX m w base v ps) {A : Option Addr} {qs : List Rat} {n c : Nat} (hx : a.eval x = .slice A n c) (hn : n = qs.length) (hr : RX m w A qs) (hc : A = none → c = 0)
    (hlen : ps.length + qs.length ≤ 1000000) (hbase : base ≤ w.heap.size) (hK : ∀ v' w', AppX m w w' base v v' (ps ++ qs) → wpList Try.prog ops Q rest (a.put o.dst v') w') : wpList Try.prog ops Q (o :: rest) a w :=
  wpList_plain hgd fun K hK' => oper_append_rats s x ho hs h hx hn hr hc hlen hbase fun v' w' hA => hK' _ _ (hK v' w' hA)
end
theorem AppX.below {m : Option Nat} {w w' w0 : World} {base : Nat} {v v' : Value} {ps qs : List Rat} (h : AppX m w w' base v v' qs) (hb : Below base w0 w) (ho : AX m w base v ps) (hB : base ≤ w.heap.size) : Below base w0 w' :=
  hb.grown h.grown hB (fun k hk => (ho.own_lt k hk).1)
/-- A number that was just laid in a block of its own. -/
theorem RX.one {m : Option Nat} {w : World} {g : Nat} {s : Bool} {X Y : Option Addr} {n c k d : Nat} {q : Rat} (hb : Blk w g 31 #[.bool s, .slice X n c, .slice Y k d]) (hv : XV m w (.agg #[.bool s, .slice X n c, .slice Y k d]) q) : RX m w (some ⟨g, 0, none⟩) [q] := by
  refine ⟨[.agg #[.bool s, .slice X n c, .slice Y k d]], fun _ => ⟨g, 0, rfl, hb.lt, fun j hj => ?_⟩, rfl, fun j hj => ?_⟩
  · have : j = 0 := by simpa using hj
    subst this
    obtain ⟨c0, c1, c2⟩ := tri hb
    exact ⟨s, X, n, c, Y, k, d, rfl, by simpa using c0, by simpa using c1, by simpa using c2⟩
  · have : j = 0 := by simpa using hj
    subst this
    exact hv
end Go.Proofs.Ytkngegcfdabpoaa
