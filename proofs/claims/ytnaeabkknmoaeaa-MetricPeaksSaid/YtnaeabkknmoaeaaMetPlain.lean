/-
  Plain laws on meters and metrics: no program in sight.
-/
namespace Go.Proofs.Ytnaeabkknmoaeaa

/-- One step of the meter. -/
def mstep (s : Int × Int) (c : Int) : Int × Int := (s.1 + c, max s.2 (s.1 + c))
def mfold (l : List Int) : Int × Int := l.foldl mstep (0, 0)

theorem mfold_snoc (l : List Int) (c : Int) : mfold (l ++ [c]) = mstep (mfold l) c := by simp [mfold]
theorem mfold_take (l : List Int) (k : Nat) (h : k < l.length) : mfold (l.take (k + 1)) = mstep (mfold (l.take k)) l[k] := by
  rw [List.take_succ_eq_append_getElem h, mfold_snoc]

/-- bounded costs keep the meter small -/
theorem mfold_bd (l : List Int) (M : Int) (hM : 0 ≤ M) (h : ∀ c ∈ l, -M ≤ c ∧ c ≤ M) : -(M * l.length) ≤ (mfold l).1 ∧ (mfold l).1 ≤ (mfold l).2 ∧ 0 ≤ (mfold l).2 ∧ (mfold l).2 ≤ M * l.length := by
  suffices H : ∀ (l : List Int) (s : Int × Int), (∀ c ∈ l, -M ≤ c ∧ c ≤ M) → s.1 ≤ s.2 → 0 ≤ s.2 →
      s.1 - M * l.length ≤ (l.foldl mstep s).1 ∧ (l.foldl mstep s).1 ≤ (l.foldl mstep s).2 ∧ 0 ≤ (l.foldl mstep s).2 ∧ (l.foldl mstep s).2 ≤ s.2 + M * l.length by
    have := H l (0, 0) h (Int.le_refl _) (Int.le_refl _)
    simp only [mfold]
    simp only at this
    omega
  intro l
  induction l with
  | nil => intro s _ h1 h2; simp; omega
  | cons c l ih =>
    intro s hc h1 h2
    have hcc := hc c (by simp)
    have := ih (mstep s c) (fun d hd => hc d (by simp [hd])) (by simp only [mstep]; omega) (by simp only [mstep]; omega)
    simp only [List.foldl_cons, List.length_cons]
    have e : M * ((l.length + 1 : Nat) : Int) = M * l.length + M := by rw [Int.natCast_add, Int.mul_add]; simp
    rw [e]
    simp only [mstep] at this ⊢
    omega

/-- the meter of the first k costs, at most 65536 of them, each at most 2^40 -/
theorem mfold_small (l : List Int) (k : Nat) (hl : l.length ≤ 65536) (h : ∀ c ∈ l, -1099511627776 ≤ c ∧ c ≤ 1099511627776) :
    -72057594037927936 ≤ (mfold (l.take k)).1 ∧ (mfold (l.take k)).1 ≤ (mfold (l.take k)).2 ∧ 0 ≤ (mfold (l.take k)).2 ∧ (mfold (l.take k)).2 ≤ 72057594037927936 := by
  have h1 := mfold_bd (l.take k) 1099511627776 (by omega) (fun c hc => h c (List.mem_of_mem_take hc))
  have h2 : (l.take k).length ≤ l.length := by rw [List.length_take]; omega
  omega
theorem fold_shift (m : List Int) : ∀ (s t : Int × Int), m.foldl mstep (s.1 + t.1, max s.2 (s.1 + t.2)) = (s.1 + (m.foldl mstep t).1, max s.2 (s.1 + (m.foldl mstep t).2)) := by
  induction m with
  | nil => intro s t; rfl
  | cons c m ih =>
    intro s t
    have := ih s (mstep t c)
    simp only [List.foldl_cons]
    rw [← this]
    congr 1
    simp only [mstep, Prod.mk.injEq]
    omega
theorem mfold_le (l : List Int) : (mfold l).1 ≤ (mfold l).2 ∧ 0 ≤ (mfold l).2 := by
  suffices H : ∀ (l : List Int) (s : Int × Int), s.1 ≤ s.2 → 0 ≤ s.2 → (l.foldl mstep s).1 ≤ (l.foldl mstep s).2 ∧ 0 ≤ (l.foldl mstep s).2 from H l (0, 0) (Int.le_refl _) (Int.le_refl _)
  intro l
  induction l with
  | nil => intro s h1 h2; exact ⟨h1, h2⟩
  | cons c l ih =>
    intro s h1 h2
    exact ih (mstep s c) (by simp only [mstep]; omega) (by simp only [mstep]; omega)
theorem mfold_append (l m : List Int) : mfold (l ++ m) = ((mfold l).1 + (mfold m).1, max (mfold l).2 ((mfold l).1 + (mfold m).2)) := by
  have h := mfold_le l
  have := fold_shift m (mfold l) (0, 0)
  rw [show ((mfold l).1 + ((0, 0) : Int × Int).1, max (mfold l).2 ((mfold l).1 + ((0, 0) : Int × Int).2)) = mfold l from by
    rw [Int.add_zero, Int.max_eq_left (by simpa using h.1)]] at this
  rw [mfold, List.foldl_append]
  exact this
end Go.Proofs.Ytnaeabkknmoaeaa
