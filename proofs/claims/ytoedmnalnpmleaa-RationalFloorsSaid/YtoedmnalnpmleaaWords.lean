/-
  Words for memory: a block that is known whole; a slice that reads as a list of integers; small laws on worlds.
-/
import Derived.WalkKit
import Derived.WalkSpells
import Derived.WalkLawsBesides
import Derived.Deep.QuietTactic
import Derived.BigQuiet
import Derived.Lib.Hide
import Derived.Deep.RegionHeld3
import Derived.Deep.DeepCutAuto
import Derived.StillTailTactics
import Derived.Deep.Draws
namespace Go.Proofs.Ytoedmnalnpmleaa
open Go.RowKit

theorem block_of_add (a : Addr) (n : Nat) : (a.add n).block = a.block := by unfold Addr.add; split <;> rfl
theorem add_of_add (a : Addr) (i j : Nat) : (a.add i).add j = a.add (i + j) := by
  unfold Addr.add
  by_cases hi : i = 0 <;> by_cases hj : j = 0 <;> simp [hi, hj, Nat.add_assoc]

/-- What existed in w is there unchanged in the second world. -/
abbrev Up (w w' : World) : Prop := Below w.heap.size w w'
theorem Up.trans {a b c : World} (h : Up a b) (k : Up b c) : Up a c := Below.trans h (Below.mono k h.size)
theorem Up.refl (w : World) : Up w w := Below.refl _ _
theorem below_up {B : Nat} {a b c : World} (h : Below B a b) (k : Up b c) (hB : B ≤ b.heap.size) : Below B a c := h.trans (Below.mono k hB)
theorem below_drewN {B : Nat} {a w : World} (h : Below B a w) (n : Nat) : Below B a (w.drewN n) := ⟨h.os, h.tape, h.output, h.size, h.block⟩

/-- Old cells and marks read as they did: two rules that the walk uses by itself. -/
theorem bcell {W w1 : World} (hb : Up W w1) : (∀ b o, b < W.heap.size → w1.cell? ⟨b, o, none⟩ = W.cell? ⟨b, o, none⟩) ∧ (∀ b o, b < W.heap.size → w1.frozen? ⟨b, o, none⟩ = W.frozen? ⟨b, o, none⟩) ∧ (∀ b, b < W.heap.size → b < w1.heap.size) ∧
    (∀ b, b < W.heap.size → b < w1.heap.size + 1) ∧ (∀ b, b < W.heap.size → b < w1.heap.size + 1 + 1) ∧ (∀ n : Nat, n < n + 1 + 1) :=
  ⟨fun b o h => hb.cell (p := ⟨b, o, none⟩) h, fun b o h => hb.frozen (p := ⟨b, o, none⟩) h, fun _ h => Nat.lt_of_lt_of_le h hb.size, fun _ h => Nat.lt_succ_of_lt (Nat.lt_of_lt_of_le h hb.size),
   fun _ h => Nat.lt_succ_of_lt (Nat.lt_succ_of_lt (Nat.lt_of_lt_of_le h hb.size)), fun n => by omega⟩

/-- Block g is just the cells cs of element type t, none of them frozen. -/
def Blk (w : World) (g : Nat) (t : TypeId) (cs : Array Value) : Prop := w.heap[g]? = some (.cells cs t (0, 0))
section
variable {w w' : World} {g : Nat} {t : TypeId} {cs : Array Value}
theorem Blk.lt (h : Blk w g t cs) : g < w.heap.size := by
  rcases Nat.lt_or_ge g w.heap.size with hlt | hge
  · exact hlt
  · unfold Blk at h; rw [Array.getElem?_eq_none hge] at h; cases h
theorem Blk.cell (h : Blk w g t cs) (i : Nat) : w.cell? ⟨g, i, none⟩ = cs[i]? := cell_of_row w g i cs t (0, 0) h
theorem Blk.frozen (h : Blk w g t cs) (i : Nat) : w.frozen? ⟨g, i, none⟩ = false := by
  unfold Blk at h
  simp [World.frozen?, h]
theorem Blk.new (w : World) (t : TypeId) (cs : Array Value) : Blk (w.alloc (.cells cs t)) w.heap.size t cs := heap_alloc_new w _
theorem Blk.new' (w : World) (t : TypeId) (cs : Array Value) {g : Nat} (hg : g = w.heap.size) : Blk (w.alloc (.cells cs t)) g t cs := by rw [hg]; exact heap_alloc_new w _
theorem Blk.drew (h : Blk w g t cs) : Blk w.drew g t cs := h
theorem Blk.drewN (h : Blk w g t cs) (n : Nat) : Blk (w.drewN n) g t cs := h
theorem Blk.alloc (h : Blk w g t cs) (o : Obj) : Blk (w.alloc o) g t cs := (Below.heap_alloc w o g h.lt).trans h
theorem Blk.set_ (h : Blk w g t cs) (i : Nat) (u : Value) : Blk (w.setCell ⟨g, i, none⟩ u) g t (cs.setIfInBounds i u) := by
  unfold Blk at h ⊢
  simp [World.setCell, Array.getElem?_modify, h]
theorem Blk.far (h : Blk w g t cs) {p : Addr} (hp : g ≠ p.block) (u : Value) : Blk (w.setCell p u) g t cs := (Below.heap_setCell w p u g hp).trans h
theorem Blk.below {B : Nat} (h : Blk w g t cs) (hb : Below B w w') (hg : g < B) : Blk w' g t cs := (hb.block g hg).trans h
theorem Blk.up (h : Blk w g t cs) (hb : Up w w') : Blk w' g t cs := h.below hb h.lt
theorem Blk.ne_ {g' : Nat} {t' : TypeId} {cs' : Array Value} (h : Blk w g t cs) (h' : Blk w g' t' cs') (hne : t ≠ t') : g ≠ g' := by
  rintro rfl
  unfold Blk at h h'
  rw [h] at h'
  injection h' with h'
  injection h' with _ ht
  exact hne ht
end

/-- A slice value at address A reads as the numbers zs in the world w, below block B. -/
def SI (w : World) (B : Nat) (K : IntKind) (A : Option Addr) (zs : List Int) : Prop :=
  0 < zs.length → ∃ ad, A = some ad ∧ ad.block < B ∧ ∀ j (h : j < zs.length), w.cell? (ad.add j) = some (.int K zs[j])
section
variable {w w' : World} {B B' : Nat} {K : IntKind} {A : Option Addr} {zs : List Int}
theorem SI.nil_ : SI w B K A [] := fun h => absurd h (by simp)
theorem SI.at_ (h : SI w B K A zs) {k : Nat} (hk : k < zs.length) : ∃ ad, A = some ad ∧ ad.block < B ∧ w.cell? (ad.add k) = some (.int K zs[k]) := by
  obtain ⟨ad, e, hb, hc⟩ := h (by omega)
  exact ⟨ad, e, hb, hc k hk⟩
theorem SI.keep (h : SI w B K A zs) (hk : ∀ p : Addr, p.block < B → w'.cell? p = w.cell? p) : SI w' B K A zs := fun h0 => by
  obtain ⟨ad, e, hl, hc⟩ := h h0
  exact ⟨ad, e, hl, fun j hj => (hk _ (by rw [block_of_add]; exact hl)).trans (hc j hj)⟩
theorem SI.below (h : SI w B K A zs) (hb : Below B w w') : SI w' B K A zs := h.keep fun _ hp => hb.cell hp
theorem SI.more (h : SI w B K A zs) (hB : B ≤ B') : SI w B' K A zs := fun h0 => by
  obtain ⟨ad, e, hl, hc⟩ := h h0
  exact ⟨ad, e, by omega, hc⟩
theorem SI.up (h : SI w w.heap.size K A zs) (hb : Up w w') : SI w' w'.heap.size K A zs := (h.below hb).more hb.size
theorem SI.take (h : SI w B K A zs) (k : Nat) : SI w B K A (zs.take k) := fun h0 => by
  have hl : (zs.take k).length ≤ zs.length := List.length_take_le' _ _
  obtain ⟨ad, e, hl', hc⟩ := h (by omega)
  exact ⟨ad, e, hl', fun j hj => by rw [List.getElem_take]; exact hc j (by omega)⟩
theorem SI.blk {g : Nat} {t : TypeId} (zs : List Int) (h : Blk w g t (zs.map (Value.int K)).toArray) (hg : g < B) : SI w B K (some ⟨g, 0, none⟩) zs := fun _ =>
  ⟨⟨g, 0, none⟩, rfl, hg, fun j hj => by
    have := h.cell j
    rw [show (Addr.add ⟨g, 0, none⟩ j) = ⟨g, j, none⟩ from by simp [Addr.add]; exact fun h => h.symm, this]
    simp [hj]⟩
end

theorem bret1 {P : Program} {fn : Func} {R : Ending → World → Prop} {a : Act} {w : World} {v : Value}
    (hr : (results fn a.tmps).run P w = .ok v w) (hd : a.defers = []) (hR : R (.returned v) w) : bodyPost P fn R .ret a w := bodyPost_ret hr hd hR
theorem ret_int {k : IntKind} {a b : Int} (h : a = b) : Ending.returned (.int k a) = .returned (.int k b) := by rw [h]
theorem ret_bool {a b : Bool} (h : a = b) : Ending.returned (.bool a) = .returned (.bool b) := by rw [h]
end Go.Proofs.Ytoedmnalnpmleaa
