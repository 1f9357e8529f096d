/-
  Lists of rational numbers in memory, by their values: read, owned whole, made by append.
-/
import Derived.Test.YtkngegcfdabpoaaLKeep
import Derived.Test.YtkngegcfdabpoaaPA
import Derived.OwnWalk
namespace Go.Proofs.Ytkngegcfdabpoaa
open Go.RowKit

/-- The three cells of a number. -/
def c3 (v : Value) : List Value := [v.cells.getD 0 undef, v.cells.getD 1 undef, v.cells.getD 2 undef]
def cs3 (vs : List Value) : List Value := vs.flatMap c3
theorem c3_len (v : Value) : (c3 v).length = 3 := rfl
theorem cs3_len (vs : List Value) : (cs3 vs).length = vs.length * 3 := by
  induction vs with
  | nil => rfl
  | cons v vs ih => simp only [cs3, List.flatMap_cons, List.length_append, c3_len, List.length_cons] at *; omega
theorem cs3_get (vs : List Value) : ∀ (j i : Nat) (h : j < vs.length), i < 3 → (cs3 vs)[j * 3 + i]? = (c3 vs[j])[i]? := by
  induction vs with
  | nil => intro j i h; simp at h
  | cons v vs ih =>
    intro j i h hi
    have hl := c3_len v
    simp only [cs3, List.flatMap_cons]
    match j, h with
    | 0, _ => rw [List.getElem?_append_left (by omega)]; simp
    | j + 1, h =>
      rw [List.getElem?_append_right (by omega), hl, show (j + 1) * 3 + i - 3 = j * 3 + i from by omega]
      exact ih j i (by simpa using h) hi
theorem cs3_append (a b : List Value) : cs3 (a ++ b) = cs3 a ++ cs3 b := by simp [cs3]
theorem cs3_set (vs : List Value) (k : Nat) (h : k < vs.length) (a b c : Value) : cs3 (vs.set k (.agg #[a, b, c])) = (((cs3 vs).set (k * 3) a).set (k * 3 + 1) b).set (k * 3 + 2) c := by
  induction vs generalizing k with
  | nil => simp at h
  | cons v vs ih =>
    have hl := c3_len v
    match k, h with
    | 0, _ =>
      simp only [cs3, List.flatMap_cons, List.set_cons_zero]
      simp [c3, Value.cells]
    | k + 1, h =>
      have := ih k (by simpa using h)
      simp only [cs3, List.flatMap_cons, List.set_cons_succ] at this ⊢
      rw [this]
      rw [List.set_append_right _ _ (by omega), List.set_append_right _ _ (by omega), List.set_append_right _ _ (by omega), hl]
      rw [show (k + 1) * 3 - 3 = k * 3 from by omega, show (k + 1) * 3 + 1 - 3 = k * 3 + 1 from by omega, show (k + 1) * 3 + 2 - 3 = k * 3 + 2 from by omega]
/-- A struct of a bool and two slices. -/
def Shp (v : Value) : Prop := ∃ s X n c Y m d, v = .agg #[.bool s, .slice X n c, .slice Y m d]
theorem Shp.c3 {v : Value} (h : Shp v) : ∀ u ∈ Go.Proofs.Ytkngegcfdabpoaa.c3 v, u.oneCell' = true ∧ ∀ k z, u ≠ .int k z := by
  obtain ⟨s, X, n, c, Y, m, d, rfl⟩ := h
  intro u hu
  simp [Go.Proofs.Ytkngegcfdabpoaa.c3, Value.cells] at hu
  rcases hu with rfl | rfl | rfl <;> exact ⟨rfl, fun _ _ h => by cases h⟩
theorem cs3_one {vs : List Value} (h : ∀ v ∈ vs, Shp v) : ∀ u ∈ cs3 vs, u.oneCell' = true ∧ ∀ k z, u ≠ .int k z := by
  intro u hu
  simp only [cs3, List.mem_flatMap] at hu
  obtain ⟨v, hv, hu⟩ := hu
  exact (h v hv).c3 u hu

/-- Canonical, or of at most so many words. -/
def XV : Option Nat → World → Value → Rat → Prop
  | none, w, v, q => QV w v q
  | some B, w, v, q => IV w v q B
def XB : Option Nat → Rat → Nat → Prop
  | none, q, B => qs q ≤ B
  | some B', _, B => B' ≤ B
section
variable {o : Option Nat} {w w' : World} {v : Value} {q : Rat} {B : Nat}
theorem XV.up (h : XV o w v q) (hu : Up w w') : XV o w' v q := by
  cases o with
  | none => exact QV.up h hu
  | some B => exact IV.up h hu
theorem XV.kp (h : XV o w v q) (hk : Kp w w') : XV o w' v q := by
  cases o with
  | none => exact QV.kp h hk
  | some B => exact IV.kp h hk
theorem XV.shp (h : XV o w v q) : Shp v := by
  cases o with
  | none => exact QV.shape h
  | some B => exact IV.shape h
theorem XV.iv (h : XV o w v q) (hB : XB o q B) : IV w v q B := by
  cases o with
  | none => exact QV.iv h hB
  | some B' => exact IV.more h hB
end

/-- The numbers of a list of values. -/
def LX (o : Option Nat) (w : World) (vs : List Value) (ps : List Rat) : Prop := vs.length = ps.length ∧ ∀ j (h : j < vs.length), XV o w vs[j] (ps.getD j 0)
/-- A slice at A reads as the numbers ps. -/
def RX (o : Option Nat) (w : World) (A : Option Addr) (ps : List Rat) : Prop := ∃ vs, EL w w.heap.size A vs ∧ LX o w vs ps
/-- Block g is just the numbers ps. -/
def OX (o : Option Nat) (w : World) (g : Nat) (ps : List Rat) : Prop := ∃ vs, Blk w g 31 (cs3 vs).toArray ∧ LX o w vs ps
section
variable {o : Option Nat} {w w' : World} {A : Option Addr} {ps : List Rat} {g : Nat} {vs : List Value}
theorem LX.up (h : LX o w vs ps) (hu : Up w w') : LX o w' vs ps := ⟨h.1, fun j hj => (h.2 j hj).up hu⟩
theorem LX.kp (h : LX o w vs ps) (hk : Kp w w') : LX o w' vs ps := ⟨h.1, fun j hj => (h.2 j hj).kp hk⟩
theorem LX.shp (h : LX o w vs ps) : ∀ v ∈ vs, Shp v := fun v hv => by
  obtain ⟨j, hj, rfl⟩ := List.getElem_of_mem hv
  exact (h.2 j hj).shp
theorem LX.nil_ : LX o w [] [] := ⟨rfl, fun j h => absurd h (by simp)⟩
theorem LX.snoc {v : Value} {q : Rat} (h : LX o w vs ps) (hv : XV o w v q) : LX o w (vs ++ [v]) (ps ++ [q]) := by
  have hl := h.1
  refine ⟨by simp [hl], fun j hj => ?_⟩
  by_cases hj' : j < vs.length
  · rw [List.getElem_append_left hj']
    have e : (ps ++ [q]).getD j 0 = ps.getD j 0 := by simp only [List.getD_eq_getElem?_getD]; rw [List.getElem?_append_left (by omega)]
    rw [e]; exact h.2 j hj'
  · have e1 : j = vs.length := by simp at hj; omega
    have e2 : (vs ++ [v])[j] = v := by rw [List.getElem_append_right (by omega)]; simp
    have e3 : (ps ++ [q]).getD j 0 = q := by subst e1; rw [hl]; simp
    rw [e2, e3]; exact hv
theorem LX.append {us : List Value} {qs : List Rat} (h : LX o w vs ps) (hu : LX o w us qs) : LX o w (vs ++ us) (ps ++ qs) := by
  have hl := h.1
  have hl' := hu.1
  refine ⟨by simp [hl, hl'], fun j hj => ?_⟩
  by_cases hj' : j < vs.length
  · rw [List.getElem_append_left hj']
    have e : (ps ++ qs).getD j 0 = ps.getD j 0 := by simp only [List.getD_eq_getElem?_getD]; rw [List.getElem?_append_left (by omega)]
    rw [e]; exact h.2 j hj'
  · have hj2 : j - vs.length < us.length := by simp at hj; omega
    have e2 : (vs ++ us)[j] = us[j - vs.length] := by rw [List.getElem_append_right (by omega)]
    have e3 : (ps ++ qs).getD j 0 = qs.getD (j - vs.length) 0 := by simp only [List.getD_eq_getElem?_getD]; rw [List.getElem?_append_right (by omega), hl]
    rw [e2, e3]; exact hu.2 _ hj2
theorem LX.set {v : Value} {q : Rat} {k : Nat} (h : LX o w vs ps) (hk : k < ps.length) (hv : XV o w v q) : LX o w (vs.set k v) (ps.set k q) := by
  have hl := h.1
  refine ⟨by simp [hl], fun j hj => ?_⟩
  simp only [List.length_set] at hj
  by_cases e : k = j
  · subst e
    have e3 : (ps.set k q).getD k 0 = q := by simp [hk]
    simp only [List.getElem_set_self, e3]; exact hv
  · have e3 : (ps.set k q).getD j 0 = ps.getD j 0 := by simp [e]
    rw [List.getElem_set_ne e, e3]; exact h.2 j hj
theorem LX.iv {B : Nat} (h : LX o w vs ps) (hB : ∀ q ∈ ps, XB o q B) : LX (some B) w vs ps := ⟨h.1, fun j hj => (h.2 j hj).iv (hB _ (by rw [h.1] at hj; simp [hj]))⟩
theorem LX.of_pick {B : Nat} (h1 : ps.length = vs.length) (h2 : ∀ j (h : j < vs.length), IV w vs[j] (ps.getD j 0) B) : LX (some B) w vs ps := ⟨h1.symm, h2⟩

theorem RX.up (h : RX o w A ps) (hu : Up w w') : RX o w' A ps := by
  obtain ⟨vs, h1, h2⟩ := h
  exact ⟨vs, h1.up hu, h2.up hu⟩
theorem RX.iv {B : Nat} (h : RX o w A ps) (hB : ∀ q ∈ ps, XB o q B) : RX (some B) w A ps := by
  obtain ⟨vs, h1, h2⟩ := h
  exact ⟨vs, h1, h2.iv hB⟩
theorem RX.nil_ : RX o w A [] := ⟨[], fun h => absurd h (by simp), LX.nil_⟩
/-- One element. -/
theorem RX.at_ (h : RX o w A ps) {k : Nat} (hk : k < ps.length) : ∃ b off s X n c Y m d, A = some ⟨b, off, none⟩ ∧ b < w.heap.size ∧ XV o w (.agg #[.bool s, .slice X n c, .slice Y m d]) (ps.getD k 0) ∧
    w.cell? ⟨b, off + k * 3, none⟩ = some (.bool s) ∧ w.cell? ⟨b, off + k * 3 + 1, none⟩ = some (.slice X n c) ∧ w.cell? ⟨b, off + k * 3 + 2, none⟩ = some (.slice Y m d) := by
  obtain ⟨vs, h1, h2⟩ := h
  have hkv : k < vs.length := by rw [h2.1]; exact hk
  obtain ⟨b, off, e, hb, hel⟩ := h1 (by omega)
  obtain ⟨s, X, n, c, Y, m, d, hv, c0, c1, c2⟩ := hel k hkv
  have := h2.2 k hkv
  rw [hv] at this
  exact ⟨b, off, s, X, n, c, Y, m, d, e, hb, this, c0, c1, c2⟩
theorem RX.take (h : RX o w A ps) (k : Nat) : RX o w A (ps.take k) := by
  obtain ⟨vs, h1, h2⟩ := h
  refine ⟨vs.take k, fun h0 => ?_, ?_, fun j hj => ?_⟩
  · have hl : (vs.take k).length ≤ vs.length := List.length_take_le' _ _
    obtain ⟨b, off, e, hb, hel⟩ := h1 (by omega)
    exact ⟨b, off, e, hb, fun j hj => by rw [List.getElem_take]; exact hel j (by omega)⟩
  · simp [h2.1]
  · have hj2 : j < vs.length := by simp at hj; omega
    have e : (ps.take k).getD j 0 = ps.getD j 0 := by simp at hj; simp [List.getElem?_take, show j < k by omega]
    rw [List.getElem_take, e]; exact h2.2 j hj2
theorem RX.drop {b off : Nat} (h : RX o w (some ⟨b, off, none⟩) ps) (k : Nat) : RX o w (some ⟨b, off + k * 3, none⟩) (ps.drop k) := by
  obtain ⟨vs, h1, h2⟩ := h
  refine ⟨vs.drop k, fun h0 => ?_, ?_, fun j hj => ?_⟩
  · have hl : (vs.drop k).length = vs.length - k := List.length_drop
    obtain ⟨b', off', e, hb, hel⟩ := h1 (by omega)
    injection e with e
    injection e with e1 e2
    subst e1 e2
    refine ⟨_, _, rfl, hb, fun j hj => ?_⟩
    have := hel (k + j) (by omega)
    rw [List.getElem_drop, show off + k * 3 + j * 3 = off + (k + j) * 3 from by omega]
    exact this
  · simp [h2.1]
  · have hl : (vs.drop k).length = vs.length - k := List.length_drop
    have e : (ps.drop k).getD j 0 = ps.getD (k + j) 0 := by simp
    rw [List.getElem_drop, e]; exact h2.2 (k + j) (by omega)

theorem OX.up (h : OX o w g ps) (hu : Up w w') : OX o w' g ps := by
  obtain ⟨vs, h1, h2⟩ := h
  exact ⟨vs, h1.up hu, h2.up hu⟩
theorem OX.lt (h : OX o w g ps) : g < w.heap.size := by
  obtain ⟨vs, h1, h2⟩ := h
  exact h1.lt
theorem OX.frozen (h : OX o w g ps) (i : Nat) : w.frozen? ⟨g, i, none⟩ = false := by
  obtain ⟨vs, h1, h2⟩ := h
  exact h1.frozen i
theorem OX.iv {B : Nat} (h : OX o w g ps) (hB : ∀ q ∈ ps, XB o q B) : OX (some B) w g ps := by
  obtain ⟨vs, h1, h2⟩ := h
  exact ⟨vs, h1, h2.iv hB⟩
theorem blk3_at {s : Bool} {X Y : Option Addr} {n c m d k : Nat} (h : Blk w g 31 (cs3 vs).toArray) (hk : k < vs.length) (hv : vs[k] = .agg #[.bool s, .slice X n c, .slice Y m d]) :
    w.cell? ⟨g, k * 3, none⟩ = some (.bool s) ∧ w.cell? ⟨g, k * 3 + 1, none⟩ = some (.slice X n c) ∧ w.cell? ⟨g, k * 3 + 2, none⟩ = some (.slice Y m d) := by
  have e0 := h.cell (k * 3)
  have e1 := h.cell (k * 3 + 1)
  have e2 := h.cell (k * 3 + 2)
  have g0 := cs3_get vs k 0 hk (by omega)
  have g1 := cs3_get vs k 1 hk (by omega)
  have g2 := cs3_get vs k 2 hk (by omega)
  rw [hv] at g0 g1 g2
  simp only [List.getElem?_toArray, Nat.add_zero] at e0 e1 e2 g0
  exact ⟨e0.trans g0, e1.trans g1, e2.trans g2⟩
theorem OX.at_ (h : OX o w g ps) {k : Nat} (hk : k < ps.length) : ∃ s X n c Y m d, XV o w (.agg #[.bool s, .slice X n c, .slice Y m d]) (ps.getD k 0) ∧
    w.cell? ⟨g, k * 3, none⟩ = some (.bool s) ∧ w.cell? ⟨g, k * 3 + 1, none⟩ = some (.slice X n c) ∧ w.cell? ⟨g, k * 3 + 2, none⟩ = some (.slice Y m d) := by
  obtain ⟨vs, h1, h2⟩ := h
  have hkv : k < vs.length := by rw [h2.1]; exact hk
  obtain ⟨s, X, n, c, Y, m, d, hv⟩ := (h2.2 k hkv).shp
  have := h2.2 k hkv
  rw [hv] at this
  exact ⟨s, X, n, c, Y, m, d, this, blk3_at h1 hkv hv⟩
theorem OX.rx (h : OX o w g ps) : RX o w (some ⟨g, 0, none⟩) ps := by
  obtain ⟨vs, h1, h2⟩ := h
  refine ⟨vs, fun _ => ⟨g, 0, rfl, h1.lt, fun j hj => ?_⟩, h2⟩
  obtain ⟨s, X, n, c, Y, m, d, hv⟩ := (h2.2 j hj).shp
  rw [Nat.zero_add]
  exact ⟨s, X, n, c, Y, m, d, hv, blk3_at h1 hj hv⟩
/-- The cells of such a block hold no integers. -/
theorem OX.noint (h : OX o w g ps) : ∀ (p : Addr) (k : IntKind) (z : Int), p.block = g → w.cell? p ≠ some (.int k z) := by
  obtain ⟨vs, h1, h2⟩ := h
  intro p k z hp hc
  obtain ⟨b, i, s⟩ := p
  simp only at hp
  subst hp
  cases s with
  | some s =>
    unfold Blk at h1
    simp [World.cell?, h1] at hc
  | none =>
    rw [h1.cell i, List.getElem?_toArray] at hc
    exact (cs3_one h2.shp _ (List.mem_of_getElem? hc)).2 k z rfl
/-- The three stores of one element. -/
def put3 (w : World) (g i : Nat) (x y z : Value) : World := ((w.setCell ⟨g, i, none⟩ x).setCell ⟨g, i + 1, none⟩ y).setCell ⟨g, i + 2, none⟩ z
theorem put3_only (w : World) (g i : Nat) (x y z : Value) : w.grownBy (put3 w g i x y z) (some g) :=
  ⟨rfl, rfl, rfl, by simp [put3], fun k _ hk => by
    have : k ≠ g := fun e => hk (by rw [e])
    unfold put3
    rw [Below.heap_setCell _ _ _ k this, Below.heap_setCell _ _ _ k this, Below.heap_setCell _ _ _ k this]⟩
theorem kp_of_grown {w w' : World} {r : Option Nat} (h : w.grownBy w' r) (hn : ∀ g, r = some g → ∀ (p : Addr) (k : IntKind) (z : Int), p.block = g → w.cell? p ≠ some (.int k z)) : Kp w w' :=
  ⟨h.size, fun p k z hc => by
    refine h.cell hc fun e => ?_
    exact hn p.block e.symm p k z rfl hc⟩
theorem OX.kp_put (h : OX o w g ps) (i : Nat) (x y z : Value) : Kp w (put3 w g i x y z) :=
  kp_of_grown (put3_only w g i x y z) fun g' e => by injection e with e; subst e; exact h.noint
theorem OX.put (h : OX o w g ps) {k : Nat} (hk : k < ps.length) {s : Bool} {X Y : Option Addr} {n c m d : Nat} {q : Rat} (hq : XV o w (.agg #[.bool s, .slice X n c, .slice Y m d]) q) :
    OX o (put3 w g (k * 3) (.bool s) (.slice X n c) (.slice Y m d)) g (ps.set k q) := by
  have hkp := h.kp_put (k * 3) (.bool s) (.slice X n c) (.slice Y m d)
  obtain ⟨vs, h1, h2⟩ := h
  refine ⟨vs.set k (.agg #[.bool s, .slice X n c, .slice Y m d]), ?_, (h2.kp hkp).set hk (hq.kp hkp)⟩
  rw [cs3_set vs k (by rw [h2.1]; exact hk)]
  have e := ((h1.set_ (k * 3) (.bool s)).set_ (k * 3 + 1) (.slice X n c)).set_ (k * 3 + 2) (.slice Y m d)
  simpa [put3] using e
theorem up_put {w0 : World} (hu : Up w0 w) (hg : w0.heap.size ≤ g) (i : Nat) (x y z : Value) : Up w0 (put3 w g i x y z) :=
  Below.grown hu (put3_only w g i x y z) hu.size (fun k e => by injection e with e; omega)
/-- Stores elsewhere. -/
theorem OX.far {g' : Nat} (h : OX o w g ps) (hk : Kp w w') (hg : w.grownBy w' (some g')) (hne : g ≠ g') : OX o w' g ps := by
  obtain ⟨vs, h1, h2⟩ := h
  exact ⟨vs, (hg.block g h1.lt (fun e => hne (by injection e))).trans h1, h2.kp hk⟩
theorem RX.far {g' : Nat} (h : RX o w A ps) (hk : Kp w w') (hg : w.grownBy w' (some g')) (hne : ∀ a, A = some a → 0 < ps.length → a.block ≠ g') : RX o w' A ps := by
  obtain ⟨vs, h1, h2⟩ := h
  refine ⟨vs, fun h0 => ?_, h2.kp hk⟩
  obtain ⟨b, off, e, hb, hel⟩ := h1 h0
  have hnb := hne _ e (by rw [← h2.1]; exact h0)
  refine ⟨b, off, e, Nat.lt_of_lt_of_le hb hg.size, fun j hj => ?_⟩
  obtain ⟨s, X, n, c, Y, m, d, hv, c0, c1, c2⟩ := hel j hj
  have hcc : ∀ (i : Nat) (v : Value), w.cell? ⟨b, i, none⟩ = some v → w'.cell? ⟨b, i, none⟩ = some v := fun i v hc => hg.cell hc (fun e => hnb (by injection e))
  exact ⟨s, X, n, c, Y, m, d, hv, hcc _ _ c0, hcc _ _ c1, hcc _ _ c2⟩
end

/-- A block of n numbers, of which the first i are ps already. -/
def FX (w : World) (g : Nat) (ps : List Rat) (n i : Nat) : Prop := ∃ vs, Blk w g 31 (cs3 vs).toArray ∧ vs.length = n ∧ (∀ v ∈ vs, Shp v) ∧ ∀ j (h : j < vs.length), j < i → QV w vs[j] (ps.getD j 0)
section
variable {w w' : World} {ps : List Rat} {g n i : Nat}
theorem FX.up (h : FX w g ps n i) (hu : Up w w') : FX w' g ps n i := by
  obtain ⟨vs, h1, h2, h3, h4⟩ := h
  exact ⟨vs, h1.up hu, h2, h3, fun j hj hi => (h4 j hj hi).up hu⟩
theorem FX.lt (h : FX w g ps n i) : g < w.heap.size := by
  obtain ⟨vs, h1, h2⟩ := h
  exact h1.lt
theorem FX.frozen (h : FX w g ps n i) (k : Nat) : w.frozen? ⟨g, k, none⟩ = false := by
  obtain ⟨vs, h1, h2⟩ := h
  exact h1.frozen k
theorem FX.at_ (h : FX w g ps n i) {k : Nat} (hk : k < n) : ∃ s X l c Y m d, w.cell? ⟨g, k * 3, none⟩ = some (.bool s) ∧ w.cell? ⟨g, k * 3 + 1, none⟩ = some (.slice X l c) ∧ w.cell? ⟨g, k * 3 + 2, none⟩ = some (.slice Y m d) := by
  obtain ⟨vs, h1, h2, h3, h4⟩ := h
  obtain ⟨s, X, l, c, Y, m, d, hv⟩ := h3 vs[k] (List.getElem_mem (by omega))
  exact ⟨s, X, l, c, Y, m, d, blk3_at h1 (by omega) hv⟩
theorem FX.put (h : FX w g ps n i) (hi : i < n) {s : Bool} {X Y : Option Addr} {l c m d : Nat} (hq : QV w (.agg #[.bool s, .slice X l c, .slice Y m d]) (ps.getD i 0)) :
    FX (put3 w g (i * 3) (.bool s) (.slice X l c) (.slice Y m d)) g ps n (i + 1) := by
  obtain ⟨vs, h1, h2, h3, h4⟩ := h
  have hkp : Kp w (put3 w g (i * 3) (.bool s) (.slice X l c) (.slice Y m d)) := kp_of_grown (put3_only w g _ _ _ _) fun g' e p k z hp hc => by
    injection e with e
    subst e
    obtain ⟨b, off, sp⟩ := p
    simp only at hp
    subst hp
    cases sp with
    | some sp => unfold Blk at h1; simp [World.cell?, h1] at hc
    | none =>
      rw [h1.cell off, List.getElem?_toArray] at hc
      exact (cs3_one h3 _ (List.mem_of_getElem? hc)).2 k z rfl
  refine ⟨vs.set i (.agg #[.bool s, .slice X l c, .slice Y m d]), ?_, by simp [h2], ?_, ?_⟩
  · rw [cs3_set vs i (by omega)]
    have e := ((h1.set_ (i * 3) (.bool s)).set_ (i * 3 + 1) (.slice X l c)).set_ (i * 3 + 2) (.slice Y m d)
    simpa [put3] using e
  · intro v hv
    rcases List.mem_or_eq_of_mem_set hv with hv | rfl
    · exact h3 v hv
    · exact ⟨_, _, _, _, _, _, _, rfl⟩
  · intro j hj hji
    simp only [List.length_set] at hj
    by_cases e : i = j
    · subst e
      simp only [List.getElem_set_self]
      exact hq.kp hkp
    · rw [List.getElem_set_ne e]
      exact (h4 j hj (by omega)).kp hkp
theorem FX.ox (h : FX w g ps n i) (hi : n ≤ i) (hl : ps.length = n) : OX none w g ps := by
  obtain ⟨vs, h1, h2, h3, h4⟩ := h
  exact ⟨vs, h1, h2.trans hl.symm, fun j hj => h4 j hj (by omega)⟩
end

/-- The zero value. -/
def zeroR : Value := .agg #[.bool false, .slice none 0 0, .slice none 0 0]
theorem zeroR_iv (w : World) (B : Nat) : IV w zeroR 0 B :=
  ⟨false, [], [], ⟨none, 0, none, 0, rfl, SI.nil_, SI.nil_, by simp, by simp, Nat.le_refl _, by simp, Nat.le_refl _, by simp⟩, Nat.zero_le _, Nat.zero_le _, by rw [show nv [] = 0 from rfl, fq_zero]⟩
theorem rat_tab : (Try.prog.info? 31).map (fun i => (i.zero, i.size, i.bytes)) = some (some zeroR, 3, 56) := by kernel_rfl
theorem made3 (n : Nat) : (madeCells zeroR.cells (n * 3)).toList = cs3 (List.replicate n zeroR) := by
  induction n with
  | zero => simp [madeCells, cs3]
  | succ n ih =>
    have e : cs3 (List.replicate (n + 1) zeroR) = cs3 (List.replicate n zeroR) ++ c3 zeroR := by rw [List.replicate_succ', cs3_append]; simp [cs3]
    rw [e, ← ih]
    simp only [madeCells, Array.toList_map, Array.toList_range]
    rw [show (n + 1) * 3 = n * 3 + 3 from by omega, List.range_add, List.map_append]
    congr 1
    simp [zeroR, Value.cells, c3, List.range_succ, Nat.add_mod]
theorem zeros_shp (n : Nat) : ∀ v ∈ List.replicate n zeroR, Shp v := fun v hv => by rw [List.eq_of_mem_replicate hv]; exact ⟨_, _, _, _, _, _, _, rfl⟩
theorem OX.of_zeros {w : World} {g n : Nat} (B : Nat) (h : Blk w g 31 (cs3 (List.replicate n zeroR)).toArray) : OX (some B) w g (List.replicate n 0) :=
  ⟨_, h, by simp, fun j hj => by
    have hj' : j < n := by simpa using hj
    have e : (List.replicate n (0 : Rat)).getD j 0 = 0 := by simp [hj']
    rw [List.getElem_replicate, e]; exact zeroR_iv w B⟩
theorem FX.of_zeros {w : World} {g n : Nat} (ps : List Rat) (h : Blk w g 31 (cs3 (List.replicate n zeroR)).toArray) : FX w g ps n 0 :=
  ⟨_, h, by simp, zeros_shp n, fun j _ h => absurd h (by omega)⟩
/-- make([]api.Rat, n). -/
theorem wpList_makeR {w : World} {ops : Array Oper} {rest : List Oper} {o : Oper} {a : Act} {Q : Exit → Act → World → Prop} (hg : o.guard = none) (l c : Operand) (hop : o.op = Op.makeSlice 22 l c)
    (kl kc : IntKind) (L C : Int) (n : Nat) (hl : a.eval l = .int kl L) (hc : a.eval c = .int kc C) (hL : L = (n : Int)) (hC : C = (n : Int)) (hn : n ≤ 1000000)
    (hK : ∀ w', Blk w' w.heap.size 31 (cs3 (List.replicate n zeroR)).toArray → Up w w' → wpList Try.prog ops Q rest (a.put o.dst (.slice (some ⟨w.heap.size, 0, none⟩) n n)) w') :
    wpList Try.prog ops Q (o :: rest) a w := by
  obtain ⟨i, hi, hz0, hz1, hz2⟩ := info_parts rat_tab
  refine wpList_make_full w hg l c 22 hop w.heap.size 31 i zeroR 3 Try.underlying22 hi hz0 hz1 kl kc L C n hl hc hL hC (by rw [hz2]; omega) (by simp only [maxLen]; omega) (Nat.le_refl _) ?_
  intro w' h1 h2
  refine hK w' ?_ (up_of_grown h2)
  obtain ⟨_, h1⟩ := h1
  rcases h1 with ⟨h1, _⟩ | ⟨g', cap, cur, hv, hbg, hh, hnc, hcm, hcs, hcur⟩
  · injection h1 with h1; cases h1
  · injection hv with hv hv2 hv3
    injection hv with hv
    injection hv with hv
    subst hv
    subst hv3
    rw [List.take_of_length_le (by simp [hcs]), made3] at hcur
    unfold Blk
    rw [hh, ← hcur]

/-- What a function returns that returns a list of canonical numbers. -/
def RetL (w0 : World) (ps : List Rat) (e : Ending) (w' : World) : Prop := ∃ A c, e = .returned (.slice A ps.length c) ∧ ps.length ≤ c ∧ c ≤ 9223372036854775807 ∧ RX none w' A ps ∧ Up w0 w'
/-- A list in a block of its own. -/
def RetO (w0 : World) (ps : List Rat) (e : Ending) (w' : World) : Prop := ∃ g, e = .returned (.slice (some ⟨g, 0, none⟩) ps.length ps.length) ∧ w0.heap.size ≤ g ∧ OX none w' g ps ∧ Up w0 w'
/-- A list and a bool. -/
def RetLB (w0 : World) (ps : List Rat) (b : Bool) (e : Ending) (w' : World) : Prop := ∃ A c, e = .returned (.tuple #[.slice A ps.length c, .bool b]) ∧ ps.length ≤ c ∧ c ≤ 9223372036854775807 ∧ RX none w' A ps ∧ Up w0 w'
end Go.Proofs.Ytkngegcfdabpoaa
