/-
  A parameter that is a slice of rational numbers.
-/
import Derived.Test.YtkngegcfdabpoaaLKeep
import Derived.Deep.Slices
namespace Go.Proofs.Ytkngegcfdabpoaa
open Go.ChangeShapes Go.WideShapes Go.ChangeAt Go.RowKit Go.Joins Go.Deep

section
variable {H : Type} {enc : TypeId × Value → H} {base : Nat} {spare : Nat → Bool} {held : Bool} {w : World}
theorem spot_of {w : World} {p : Addr} {v : Value} (h : w.cell? p = some v) : p.spot = none := by
  unfold World.cell? at h
  split at h
  · split at h
    · cases h
    · rename_i hs; cases hp : p.spot <;> simp_all
  · cases h
theorem add_three {a : Addr} (j i : Nat) (h : a.spot = none) : (a.add (j * 3)).add i = ⟨a.block, a.off + j * 3 + i, none⟩ := by
  obtain ⟨b, o, s⟩ := a
  simp only at h
  subst h
  unfold Addr.add
  repeat' split
  all_goals simp_all
/-- One element of three cells. -/
theorem three_cells {P : Program} {e : TypeId} {f0 f1 f2 : Field} {n : Nat} {a : Addr} {cs : List Value} {x : DataW H × List MemPlace} (he : P.underlying e = some (.struct #[f0, f1, f2])) (ce : P.cellsOf e = 3)
    (o0 : f0.offset = 0) (o1 : f1.offset = 1) (o2 : f2.offset = 2) (c0 : P.cellsOf f0.type = 1) (c1 : P.cellsOf f1.type = 1) (c2 : P.cellsOf f2.type = 1)
    (h1 : w.cells? base a (P.cellsOf e) = some cs) (h2 : DataW.trod enc P w base spare held n e cs = some x) :
    ∃ (v0 v1 v2 : Value) (y0 y1 y2 : DataW H × List MemPlace) (k : Nat), w.cell? (a.add 0) = some v0 ∧ w.cell? (a.add 1) = some v1 ∧ w.cell? (a.add 2) = some v2 ∧
      DataW.trod enc P w base spare held k f0.type [v0] = some y0 ∧ DataW.trod enc P w base spare held k f1.type [v1] = some y1 ∧ DataW.trod enc P w base spare held k f2.type [v2] = some y2 := by
  rw [ce] at h1
  obtain ⟨_, hlen, hcell⟩ := World.cells?_some h1
  obtain ⟨xs, k, hk, hxy, _, hxl, hf⟩ := DataW.trod_struct he h2
  match xs, hxl, cs, hlen with
  | [y0, y1, y2], _, [v0, v1, v2], _ =>
    have g0 := hf 0 f0 rfl
    have g1 := hf 1 f1 rfl
    have g2 := hf 2 f2 rfl
    simp [o0, o1, o2, c0, c1, c2] at g0 g1 g2
    have e0 := hcell 0 (by omega)
    have e1 := hcell 1 (by omega)
    have e2 := hcell 2 (by omega)
    exact ⟨v0, v1, v2, y0, y1, y2, k, by simpa using e0, by simpa using e1, by simpa using e2, g0, g1, g2⟩
theorem rats_in {fuel : Nat} {c : Value} {x : DataW H × List MemPlace} (h : DataW.trod enc Try.prog w base spare held fuel 22 [c] = some x) :
    ∃ (A : Option Addr) (cap : Nat) (vs : List Value), c = .slice A vs.length cap ∧ EL w w.heap.size A vs ∧ vs.length ≤ cap ∧ cap ≤ 9223372036854775807 ∧ (∀ u ∈ vs, ∃ s xs ys, RV w u s xs ys) ∧ (A = none → cap = 0) := by
  rcases open_slice Try.underlying22 h with ⟨hcs, _⟩ | ⟨a, len, cap, m, n, D, Pl, hcs, _, hl, hm, hmm, _, hx⟩
  · injection hcs with hcs _
    subst hcs
    exact ⟨none, 0, [], rfl, fun h => absurd h (by simp), Nat.zero_le _, by simp, by simp, fun _ => rfl⟩
  · injection hcs with hcs _
    subst hcs
    have hlm : len ≤ m := by rw [hmm]; split <;> omega
    have c3 : Try.prog.cellsOf 31 = 3 := by kernel_rfl
    have hsp : 0 < len → a.spot = none := fun h0 => by
      obtain ⟨cs, h1, h2⟩ := hx 0 (by omega)
      obtain ⟨v0, _, _, _, _, _, _, e0, _⟩ := three_cells Try.underlying31 c3 rfl rfl rfl (by kernel_rfl) (by kernel_rfl) (by kernel_rfl) h1 h2
      have := spot_of e0
      rw [Nat.zero_mul] at this
      simpa [Addr.add] using this
    have each : ∀ i, ∃ q : Value, i < len → At3 w a.block (a.off + i * 3) q ∧ a.block < w.heap.size ∧ ∃ s xs ys, RV w q s xs ys := by
      intro i
      by_cases hi : i < len
      · obtain ⟨cs, h1, h2⟩ := hx i (by omega)
        obtain ⟨v0, v1, v2, y0, y1, y2, k, e0, e1, e2, g0, g1, g2⟩ := three_cells Try.underlying31 c3 rfl rfl rfl (by kernel_rfl) (by kernel_rfl) (by kernel_rfl) h1 h2
        rw [c3] at e0 e1 e2
        rw [add_three i _ (hsp (by omega))] at e0 e1 e2
        obtain ⟨s, es, _⟩ := DataW.trod_bool Try.underlying4 g0
        simp at es
        subst es
        obtain ⟨A, ca, l, rfl, sA, la, ma, wa⟩ := ints_in Try.underlying29 Try.underlying56 (by kernel_rfl) g1
        obtain ⟨B, cb, m', rfl, sB, lb, mb, wb⟩ := ints_in Try.underlying29 Try.underlying56 (by kernel_rfl) g2
        obtain ⟨xs, rfl, hx'⟩ := nats_of wa
        obtain ⟨ys, rfl, hy'⟩ := nats_of wb
        have hlt := lt_of_cell e0
        refine ⟨.agg #[.bool s, .slice A (zs xs).length ca, .slice B (zs ys).length cb], fun _ => ⟨⟨s, A, _, ca, B, _, cb, rfl, e0, e1, e2⟩, hlt, s, xs, ys, ?_⟩⟩
        rw [zs_length] at la lb
        exact ⟨A, ca, B, cb, by rw [zs_length, zs_length], sA, sB, hx', hy', la, ma, lb, mb⟩
      · exact ⟨undef, fun h => absurd h hi⟩
    obtain ⟨F, hF⟩ := Classical.axiomOfChoice each
    have hlen : ((List.range len).map F).length = len := by simp
    refine ⟨some a, cap, (List.range len).map F, by rw [hlen], fun h0 => ?_, by rw [hlen]; exact hl, by simpa [maxLen] using hm, ?_, fun h => by cases h⟩
    · rw [hlen] at h0
      refine ⟨a.block, a.off, ?_, (hF 0 h0).2.1, fun j hj => ?_⟩
      · have := hsp h0
        obtain ⟨b, o, s⟩ := a
        simp only at this
        subst this
        rfl
      · rw [hlen] at hj
        simp only [List.getElem_map, List.getElem_range]
        exact (hF j hj).1
    · intro u hu
      rw [List.mem_map] at hu
      obtain ⟨i, hi, rfl⟩ := hu
      rw [List.mem_range] at hi
      exact (hF i hi).2.2
theorem rats_argN {v : Value} {d : DataW H} {p : List MemPlace} {b0 : Nat} (hv : Value.okWide Try.prog w .any b0 22 v) (h : DataW.Trod enc Try.prog w 0 spare held 22 v d p) :
    ∃ (A : Option Addr) (cap : Nat) (vs : List Value), v = .slice A vs.length cap ∧ EL w w.heap.size A vs ∧ vs.length ≤ cap ∧ cap ≤ 9223372036854775807 ∧ (∀ u ∈ vs, ∃ s xs ys, RV w u s xs ys) ∧ (A = none → cap = 0) := by
  obtain ⟨a0, len, cap, rfl⟩ := okWide_slice Try.underlying22 hv
  obtain ⟨fuel, hf⟩ := h
  exact rats_in (by simpa [Value.cells] using hf)
theorem rats_arg {v : Value} {d : DataW H} {p : List MemPlace} {b0 : Nat} (hv : Value.okWide Try.prog w .any b0 22 v) (h : DataW.Trod enc Try.prog w 0 spare held 22 v d p) :
    ∃ (A : Option Addr) (cap : Nat) (vs : List Value), v = .slice A vs.length cap ∧ EL w w.heap.size A vs ∧ vs.length ≤ cap ∧ cap ≤ 9223372036854775807 ∧ ∀ u ∈ vs, ∃ s xs ys, RV w u s xs ys := by
  obtain ⟨A, cap, vs, h1, h2, h3, h4, h5, _⟩ := rats_argN hv h
  exact ⟨A, cap, vs, h1, h2, h3, h4, h5⟩
end
end Go.Proofs.Ytkngegcfdabpoaa
