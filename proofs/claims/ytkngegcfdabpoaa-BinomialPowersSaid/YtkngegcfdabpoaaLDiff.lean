/-
  The document's differences.
-/
import Derived.Test.YtkngegcfdabpoaaLCanR
import Derived.Test.YtkngegcfdabpoaaLSize
import Derived.Test.YtkngegcfdabpoaaLAt
import Derived.Test.YtkngegcfdabpoaaPF
import Derived.Test.YtkngegcfdabpoaaPI
namespace Go.Proofs.Ytkngegcfdabpoaa
open Go.RowKit

theorem LB.dk {D e : Nat} {v : Nat → Rat} (h : ∀ i, LB D e (v i)) : ∀ r i, LB D (e + r) (Go.Proofs.Ytkngegcfdabpoaa.dk v r i) := by
  intro r
  induction r with
  | zero => exact h
  | succ r ih => intro i; exact LB.sub (ih (i + 1)) (ih i)
/-- The size of differences. -/
def dB (B : Nat) : Nat := 65 * B + 200
theorem qs_dk (ps : List Rat) (B : Nat) (h : ∀ q ∈ ps, qs q ≤ B) (hl : ps.length ≤ 64) (r i : Nat) (hr : r ≤ 65) : qs (dk (fun i => ps.getD i 0) r i) ≤ dB B := by
  obtain ⟨D, h1, h2, h3⟩ := LB.list B ps h
  have h4 := (LB.dk (fun i => LB.getD h1 h3 i) r i).qs h2
  have h5 : B * ps.length ≤ B * 64 := Nat.mul_le_mul_left _ hl
  unfold dB
  omega
/-- A row of the differences. -/
def dRow (ps : List Rat) (r k : Nat) : List Rat := (List.range k).map (dk (fun i => ps.getD i 0) r)
theorem dRow_len (ps : List Rat) (r k : Nat) : (dRow ps r k).length = k := by simp [dRow]
theorem dRow_getD (ps : List Rat) (r k i : Nat) (h : i < k) : (dRow ps r k).getD i 0 = dk (fun i => ps.getD i 0) r i := by
  unfold dRow; rw [range_getD, if_pos h]
theorem dRow_zero (ps : List Rat) : dRow ps 0 ps.length = ps := by
  unfold dRow
  apply List.ext_getElem
  · simp
  · intro i h1 h2; simp [dk, h2]
theorem dRow_snoc (ps : List Rat) (r k : Nat) : dRow ps r (k + 1) = dRow ps r k ++ [dk (fun i => ps.getD i 0) r k] := by simp [dRow, List.range_succ]
theorem dRow_step (ps : List Rat) (r k m : Nat) (h : k + 1 < m) : (dRow ps r m).getD (k + 1) 0 - (dRow ps r m).getD k 0 = dk (fun i => ps.getD i 0) (r + 1) k := by
  rw [dRow_getD _ _ _ _ h, dRow_getD _ _ _ _ (by omega)]; rfl
theorem newton_snoc (v : Nat → Rat) (r : Nat) : newton (r + 1) v = newton r v ++ [dk v r 0] := by simp [newton, List.range_succ]
theorem dRow_mem {ps : List Rat} {B : Nat} (h : ∀ q ∈ ps, qs q ≤ B) (hl : ps.length ≤ 64) {r k : Nat} (hr : r ≤ 65) : ∀ q ∈ dRow ps r k, qs q ≤ dB B := fun q hq => by
  simp only [dRow, List.mem_map] at hq
  obtain ⟨i, _, rfl⟩ := hq
  exact qs_dk ps B h hl r i hr
theorem newton_mem {ps : List Rat} {B m : Nat} (h : ∀ q ∈ ps, qs q ≤ B) (hl : ps.length ≤ 64) (hm : m ≤ 65) : ∀ q ∈ newton m (fun i => ps.getD i 0), qs q ≤ dB B := fun q hq => by
  simp only [newton, List.mem_map, List.mem_range] at hq
  obtain ⟨i, hi, rfl⟩ := hq
  exact qs_dk ps B h hl i 0 (by omega)
theorem AX.iv {o : Option Nat} {w : World} {base : Nat} {v : Value} {ps : List Rat} {B : Nat} (h : AX o w base v ps) (hB : ∀ q ∈ ps, XB o q B) : AX (some B) w base v ps := by
  obtain ⟨vs, h1, h2, h3⟩ := h
  exact ⟨vs, h1, h2.iv hB, h3⟩
/-- Two slices of the call's own, apart. -/
def Apart (u v : Value) : Prop := ∀ g, u.ownBlock = some g → v.ownBlock ≠ some g
theorem Apart.nil_ (u : Value) : Apart (.slice none 0 0) u := fun g h => by simp [Value.ownBlock] at h
theorem Apart.symm {u v : Value} (h : Apart u v) : Apart v u := fun g h1 h2 => h g h2 h1
theorem Apart.grown {o o' : Option Nat} {w w' : World} {base base' : Nat} {v v' : Value} {ps qs : List Rat} {u : Value} (h : AppX o w w' base v v' qs) (hu : AX o' w base' u ps) (ha : Apart u v) : Apart u v' := fun g hg h2 => by
  rcases h.at_ with h1 | h1
  · rw [h1] at h2; exact ha g hg h2
  · rw [h1] at h2
    injection h2 with h2
    have := (hu.own_lt _ hg).2
    omega
theorem AX.kept {o o' : Option Nat} {w w' : World} {base base' : Nat} {v v' : Value} {ps qs : List Rat} {u : Value} (hu : AX o' w base' u ps) (h : AppX o w w' base v v' qs) (ha : Apart u v) : AX o' w' base' u ps := by
  refine hu.keep h.grown h.kp ?_
  cases hg : u.ownBlock with
  | none => exact .inl rfl
  | some g => exact .inr fun e => ha g hg e.symm
theorem AX.rx' {o : Option Nat} {w : World} {base : Nat} {A : Option Addr} {n c : Nat} {ps : List Rat} (h : AX o w base (.slice A n c) ps) : RX o w A ps := by
  obtain ⟨A', c', e, _, _, h⟩ := h.rx
  injection e with e1 e2 e3
  subst e1
  exact h

set_option maxRecDepth 100000 in
set_option maxHeartbeats 3200000 in
theorem differences_q {o : Option Nat} {A : Option Addr} {cap : Nat} {ps : List Rat} {B : Nat} {w : World} (h : RX o w A ps) (hB : ∀ q ∈ ps, XB o q B) (hB' : B ≤ 20000000) (hl : ps.length ≤ 64) (hc : A = none → cap = 0) :
    Calls Try.prog 33 #[.slice A ps.length cap] w (RetL w (cutL (newton ps.length (fun i => ps.getD i 0)))) := by
  have hq := h.qs hB
  obtain ⟨C, hC⟩ : ∃ C, C = dB (B + 1) := ⟨_, rfl⟩
  have hCB : B ≤ C ∧ C ≤ 1400000000 := by rw [hC]; unfold dB; omega
  have HDR := Lib.hid (fun (r k : Nat) (hr : r ≤ 65) => show ∀ q ∈ dRow ps r k, XB none q C from by rw [hC]; exact dRow_mem (k := k) hq hl hr)
  have HDN := Lib.hid (fun (m : Nat) (hm : m ≤ 65) => show ∀ q ∈ newton m (fun i => ps.getD i 0), XB (some C) q C from fun _ _ => Nat.le_refl _)
  have HQD := Lib.hid (fun (r i : Nat) (hr : r ≤ 65) => show qs (dk (fun i => ps.getD i 0) r i) ≤ C from by rw [hC]; exact qs_dk ps (B + 1) hq hl r i hr)
  have HR0 := Lib.hid ((h.iv hB).iv (B := C) (fun q _ => hCB.1))
  obtain ⟨hCB1, hCB2⟩ := hCB
  have HC := Lib.hid hc
  have HP0 := Lib.hid (dRow_zero ps)
  obtain ⟨N, hN⟩ : ∃ L, L = ps.length := ⟨_, rfl⟩
  have HL := Lib.hid hN
  rw [← hN] at hl ⊢
  have HLN0 := Lib.hid (show ([] : List Rat).length + ps.length ≤ 1000000 by rw [← hN]; simp; omega)
  clear h hB hN hC hq hc
  go_enter Try.func33, Try.ntmps33
  go_wp2_with (first
    | (at_builtin; refine wpList_append_rats rfl _ _ rfl rfl (AX.nil_ (o := some C) (w := w) (base := w.heap.size)) rfl HL.out HR0.out HC.out HLN0.out (Nat.le_refl _) ?_))
  intro v1 w1 h1
  have hA1 := h1.own
  have hU1 : Up w w1 := h1.below (Below.refl _ _) (AX.nil_ (o := some C)) (Nat.le_refl _)
  have HA1 := Lib.hid (show AX (some C) w1 w.heap.size v1 (dRow ps 0 N) by rw [HL.out, HP0.out]; simpa using hA1)
  clear hA1 h1 HC HP0 HLN0 HR0
  obtain ⟨A1, k1, rfl, _, _, _⟩ := HA1.out.rx
  go_wp2_with fail
  go_loopw [3, 4] (fun u v wr => ∃ r K : Nat, Hid (r + K = N) ∧ (∃ A k, u = .slice A K k) ∧ Hid (AX (some C) wr w.heap.size u (dRow ps r K) ∧ AX (some C) wr w.heap.size v (newton r (fun i => ps.getD i 0)) ∧ Apart u v) ∧ Up w wr) (fun u _ _ => match u with | .slice _ n _ => n | _ => 0)
  case atStart => exact ⟨0, N, Lib.hid (Nat.zero_add _), ⟨_, _, by rw [dRow_len]⟩, Lib.hid ⟨HA1.out, AX.nil_, (Apart.nil_ _).symm⟩, hU1⟩
  case round =>
    obtain ⟨r, K, HK, ⟨A2, k2, rfl⟩, HH, hU⟩ := hrel
    clear HA1 hU1
    obtain ⟨hrow, hout, hap⟩ := HH.out
    have hKN : K ≤ 64 := by have := HK.out; omega
    have hrN : r ≤ 64 := by have := HK.out; omega
    by_cases hK : 0 < K
    · have t1 : decide (0 < K) = true := by simpa using hK
      obtain ⟨b, off, s, X, a, c, Y, m, d, rfl, hb, hx, c0, c1, c2⟩ := hrow.rx'.at_ (k := 0) (by rw [dRow_len]; exact hK)
      rw [dRow_getD _ _ _ _ hK] at hx
      simp only [Nat.zero_mul, Nat.add_zero] at c0 c1 c2
      have U3 : Up wr (wr.alloc (Obj.cells #[.bool s, .slice X a c, .slice Y m d] 31)) := Below.alloc (Up.refl wr) (Nat.le_refl _) _
      have HR3 := Lib.hid (RX.one (m := some C) (Blk.new wr 31 #[.bool s, .slice X a c, .slice Y m d]) (hx.up U3))
      have HO3 := Lib.hid (hout.up U3)
      have HW3 := Lib.hid (hrow.up U3)
      have HAP := Lib.hid hap
      have hV3 := hU.trans U3
      have hs3 := hV3.size
      have HLN := Lib.hid (show (newton r (fun i => ps.getD i 0)).length + [dk (fun i => ps.getD i 0) r 0].length ≤ 1000000 by rw [newton_len]; simp; omega)
      have HNS := Lib.hid (newton_snoc (fun i => ps.getD i 0) r)
      obtain ⟨z, hz⟩ : ∃ z, z = dk (fun i => ps.getD i 0) r 0 := ⟨_, rfl⟩
      rw [← hz] at HR3 HLN HNS
      obtain ⟨l4, hl4⟩ : ∃ l, l = newton r (fun i => ps.getD i 0) := ⟨_, rfl⟩
      rw [← hl4] at HO3 HLN HNS
      clear hx hrow hout hap U3 hz hl4 HH
      go_wp2_with (first
        | (at_builtin; refine wpList_append_rats rfl _ _ rfl rfl HO3.out rfl rfl HR3.out (fun h => by cases h) HLN.out hs3 ?_))
      intro v5 w5 h5
      have hO5 := h5.own
      rw [← HNS.out] at hO5
      have HO5 := Lib.hid hO5
      have HW5 := Lib.hid (HW3.out.kept h5 HAP.out)
      have hV5 : Up w w5 := h5.below hV3 HO3.out hs3
      clear hO5 h5 HO3 HW3 HR3 HLN HNS hs3 hV3 HAP c0 c1 c2 hb
      go_wp2_with fail
      go_loopw [5, 6] (fun u iv wr => ∃ i : Nat, i + 1 ≤ K ∧ iv = .int .i64 i ∧ Hid (AX (some C) wr w.heap.size u (dRow ps (r + 1) i) ∧ AX (some C) wr w.heap.size (.slice (some ⟨b, off, none⟩) K k2) (dRow ps r K) ∧ AX (some C) wr w.heap.size v5 (newton (r + 1) (fun i => ps.getD i 0)) ∧ Apart (.slice (some ⟨b, off, none⟩) K k2) u ∧ Apart v5 u) ∧ Up w wr) (fun _ iv _ => K - (intOf iv).toNat)
      case atStart => exact ⟨0, by omega, rfl, Lib.hid ⟨AX.nil_, HW5.out, HO5.out, (Apart.nil_ _).symm, (Apart.nil_ _).symm⟩, hV5⟩
      case round =>
        obtain ⟨k, hk, rfl, HH, hU⟩ := hrel
        clear HW5 HO5 hV5
        obtain ⟨hnx, hrow, hout, ha1, ha2⟩ := HH.out
        by_cases hkK : k + 1 < K
        · have t2 : decide ((k : Int) + 1 < (K : Int)) = true := by simp; omega
          obtain ⟨b', off', s, X, a, c, Y, m, d, he, hb, hx, c0, c1, c2⟩ := hrow.rx'.at_ (k := k + 1) (by rw [dRow_len]; exact hkK)
          injection he with he
          injection he with he1 he2
          subst he1 he2
          obtain ⟨b', off', sz, Xz, az, cz, Yz, mz, dz, he, _, hxz, c0z, c1z, c2z⟩ := hrow.rx'.at_ (k := k) (by rw [dRow_len]; omega)
          injection he with he
          injection he with he1 he2
          subst he1 he2
          have HSB := Lib.hid (fun wx (u : Up wr wx) => rSub_q (XV.iv (hx.up u) (B := C) (Nat.le_refl _)) (XV.iv (hxz.up u) (B := C) (Nat.le_refl _)) (by omega))
          rw [dRow_step ps r k K hkK] at HSB
          have HCN := Lib.hid (HQD.out (r + 1) k (by omega))
          have HDS := Lib.hid (dRow_snoc ps (r + 1) k)
          obtain ⟨z, hz⟩ : ∃ z, z = dk (fun i => ps.getD i 0) (r + 1) k := ⟨_, rfl⟩
          rw [← hz] at HSB HCN HDS
          have HLN := Lib.hid (show (dRow ps (r + 1) k).length + [z].length ≤ 1000000 by rw [dRow_len]; simp; omega)
          have HAn := Lib.hid hnx
          have HKP := Lib.hid (And.intro hrow (And.intro hout (And.intro ha1 ha2)))
          have ki1 : (0 : Int) ≤ k := by omega
          have ki2 : (k : Int) < K := by omega
          have ki3 : (k : Int) + 1 < K := by omega
          have HE : Hid (∀ W : World, Up wr W → (W.cell? ⟨b, off + (k + 1) * 3, none⟩ = some (.bool s) ∧ W.cell? ⟨b, off + (k + 1) * 3 + 1, none⟩ = some (.slice X a c) ∧ W.cell? ⟨b, off + (k + 1) * 3 + 2, none⟩ = some (.slice Y m d)) ∧ (W.cell? ⟨b, off + k * 3, none⟩ = some (.bool sz) ∧ W.cell? ⟨b, off + k * 3 + 1, none⟩ = some (.slice Xz az cz) ∧ W.cell? ⟨b, off + k * 3 + 2, none⟩ = some (.slice Yz mz dz))) := Lib.hid fun W hW => And.intro (⟨by rw [hW.cell (by exact hb)]; exact c0, by rw [hW.cell (by exact hb)]; exact c1, by rw [hW.cell (by exact hb)]; exact c2⟩) (⟨by rw [hW.cell (by exact hb)]; exact c0z, by rw [hW.cell (by exact hb)]; exact c1z, by rw [hW.cell (by exact hb)]; exact c2z⟩)
          have ki4 : (0 : Int) ≤ (k : Int) + 1 := by omega
          have ki5 : IntKind.i64.wrap ((k : Int) + 1) = (k : Int) + 1 := IntWalk.i64_in _ (by omega)
          have ki6 : ((k : Int) + 1).toNat = k + 1 := by omega
          clear hx hxz hz hnx hrow hout ha1 ha2 HH
          go_wp2_with fail
          refine wp_region_noPanic ?_
          refine wp_region_sched (S := (fun wx => (wx.cell? ⟨b, off + (k + 1) * 3, none⟩ = some (.bool s) ∧ wx.cell? ⟨b, off + (k + 1) * 3 + 1, none⟩ = some (.slice X a c) ∧ wx.cell? ⟨b, off + (k + 1) * 3 + 2, none⟩ = some (.slice Y m d)) ∧ (wx.cell? ⟨b, off + k * 3, none⟩ = some (.bool sz) ∧ wx.cell? ⟨b, off + k * 3 + 1, none⟩ = some (.slice Xz az cz) ∧ wx.cell? ⟨b, off + k * 3 + 2, none⟩ = some (.slice Yz mz dz)))) [(0, false), (1, false), (2, false), (3, false), (4, false), (5, false), (6, false), (7, false), (8, false), (9, false), (10, true), (11, true), (12, true), (13, false)] (by kernel_rfl) (by as_aux_lemma => kernel_rfl) (by as_aux_lemma => kernel_rfl) (by as_aux_lemma => kernel_rfl) (fun _ _ _ _ _ h => h) (HE.out _ (Up.refl wr).drew) ?_
          intro O1 HO1
          refine wpSched_take (i := 0) (v := ?v1x1) (by as_aux_lemma => rw [HO1.out]; simp only [List.getElem?_toArray, List.getElem?_cons_zero]; rfl) (Or.inl ⟨(by rfl), ?y1x1⟩) ?r1x1
          case y1x1 => as_aux_lemma => intro wx hSx; (try dsimp only at hSx); go_simp; try with_reducible rfl
          try simp only [Act.put, List.setIfInBounds_toArray, List.set_cons_zero, List.set_cons_succ]
          refine wpSched_take (i := 1) (v := ?v1x2) (by as_aux_lemma => rw [HO1.out]; simp only [List.getElem?_toArray, List.getElem?_cons_succ, List.getElem?_cons_zero]; rfl) (Or.inl ⟨(by rfl), ?y1x2⟩) ?r1x2
          case y1x2 => as_aux_lemma => intro wx hSx; (try dsimp only at hSx); go_simp; try with_reducible rfl
          try simp only [Act.put, List.setIfInBounds_toArray, List.set_cons_zero, List.set_cons_succ]
          refine wpSched_take (i := 2) (v := ?v1x3) (by as_aux_lemma => rw [HO1.out]; simp only [List.getElem?_toArray, List.getElem?_cons_succ, List.getElem?_cons_zero]; rfl) (Or.inl ⟨(by rfl), ?y1x3⟩) ?r1x3
          case y1x3 => as_aux_lemma => intro wx hSx; (try dsimp only at hSx); go_simp; try with_reducible rfl
          try simp only [Act.put, List.setIfInBounds_toArray, List.set_cons_zero, List.set_cons_succ]
          refine wpSched_take (i := 3) (v := ?v1x4) (by as_aux_lemma => rw [HO1.out]; simp only [List.getElem?_toArray, List.getElem?_cons_succ, List.getElem?_cons_zero]; rfl) (Or.inl ⟨(by rfl), ?y1x4⟩) ?r1x4
          case y1x4 => as_aux_lemma => intro wx hSx; (try dsimp only at hSx); go_simp; try with_reducible rfl
          try simp only [Act.put, List.setIfInBounds_toArray, List.set_cons_zero, List.set_cons_succ]
          refine wpSched_take (i := 4) (v := ?v1x5) (by as_aux_lemma => rw [HO1.out]; simp only [List.getElem?_toArray, List.getElem?_cons_succ, List.getElem?_cons_zero]; rfl) (Or.inl ⟨(by rfl), ?y1x5⟩) ?r1x5
          case y1x5 => as_aux_lemma => intro wx hSx; (try dsimp only at hSx); go_simp; try with_reducible rfl
          try simp only [Act.put, List.setIfInBounds_toArray, List.set_cons_zero, List.set_cons_succ]
          refine wpSched_take (i := 5) (v := ?v1x6) (by as_aux_lemma => rw [HO1.out]; simp only [List.getElem?_toArray, List.getElem?_cons_succ, List.getElem?_cons_zero]; rfl) (Or.inl ⟨(by rfl), ?y1x6⟩) ?r1x6
          case y1x6 => as_aux_lemma => intro wx hSx; (try dsimp only at hSx); go_simp; try with_reducible rfl
          try simp only [Act.put, List.setIfInBounds_toArray, List.set_cons_zero, List.set_cons_succ]
          refine wpSched_take (i := 6) (v := ?v1x7) (by as_aux_lemma => rw [HO1.out]; simp only [List.getElem?_toArray, List.getElem?_cons_succ, List.getElem?_cons_zero]; rfl) (Or.inl ⟨(by rfl), ?y1x7⟩) ?r1x7
          case y1x7 => as_aux_lemma => intro wx hSx; (try dsimp only at hSx); go_simp; try with_reducible rfl
          try simp only [Act.put, List.setIfInBounds_toArray, List.set_cons_zero, List.set_cons_succ]
          refine wpSched_take (i := 7) (v := ?v1x8) (by as_aux_lemma => rw [HO1.out]; simp only [List.getElem?_toArray, List.getElem?_cons_succ, List.getElem?_cons_zero]; rfl) (Or.inl ⟨(by rfl), ?y1x8⟩) ?r1x8
          case y1x8 => as_aux_lemma => intro wx hSx; (try dsimp only at hSx); go_simp; try with_reducible rfl
          try simp only [Act.put, List.setIfInBounds_toArray, List.set_cons_zero, List.set_cons_succ]
          refine wpSched_take (i := 8) (v := ?v1x9) (by as_aux_lemma => rw [HO1.out]; simp only [List.getElem?_toArray, List.getElem?_cons_succ, List.getElem?_cons_zero]; rfl) (Or.inl ⟨(by rfl), ?y1x9⟩) ?r1x9
          case y1x9 => as_aux_lemma => intro wx hSx; (try dsimp only at hSx); go_simp; try with_reducible rfl
          try simp only [Act.put, List.setIfInBounds_toArray, List.set_cons_zero, List.set_cons_succ]
          refine wpSched_take (i := 9) (v := ?v1x10) (by as_aux_lemma => rw [HO1.out]; simp only [List.getElem?_toArray, List.getElem?_cons_succ, List.getElem?_cons_zero]; rfl) (Or.inl ⟨(by rfl), ?y1x10⟩) ?r1x10
          case y1x10 => as_aux_lemma => intro wx hSx; (try dsimp only at hSx); go_simp; try with_reducible rfl
          try simp only [Act.put, List.setIfInBounds_toArray, List.set_cons_zero, List.set_cons_succ]
          refine wpSched_call (i := 10) (by as_aux_lemma => rw [HO1.out]; simp only [List.getElem?_toArray, List.getElem?_cons_succ, List.getElem?_cons_zero]; rfl) (by rfl) (fun K' hK => ?_)
          go_simp
          refine (HSB.out _ (Up.refl wr).drew).mono ?_
          rintro e w6 ⟨v6, rfl, hQ6, U6⟩
          obtain ⟨s6, A6, n6, c6, B6, m6, d6, rfl⟩ := hQ6.shape
          have HQ6 := Lib.hid hQ6
          have V6 : Up wr w6 := Up.trans (Up.refl wr).drew U6
          have kk6 := HE.out _ V6
          clear hQ6
          have HR7 := Lib.hid (RX.one (m := some C) (Blk.new w6 31 #[.bool s6, .slice A6 n6 c6, .slice B6 m6 d6]) ((HQ6.out.iv HCN.out).up (Below.alloc (Up.refl w6) (Nat.le_refl _) _)))
          have V7 : Up wr (w6.alloc (Obj.cells #[.bool s6, .slice A6 n6 c6, .slice B6 m6 d6] 31)) := V6.trans (Below.alloc (Up.refl w6) (Nat.le_refl _) _)
          have kk7 := HE.out _ V7
          have HA7 := Lib.hid (HAn.out.up V7)
          have hV7 := hU.trans V7
          have hs7 := hV7.size
          go_wp2_with fail
          refine hK.out _ _ kk6 (fun _ => ?_)
          clear hK K'
          try simp only [Act.put, List.setIfInBounds_toArray, List.set_cons_zero, List.set_cons_succ]
          refine wpSched_call (i := 11) (by as_aux_lemma => rw [HO1.out]; simp only [List.getElem?_toArray, List.getElem?_cons_succ, List.getElem?_cons_zero]; rfl) (by rfl) (fun K' hK => ?_)
          go_simp
          go_wp2_with fail
          refine hK.out _ _ kk7 (fun _ => ?_)
          clear hK K'
          try simp only [Act.put, List.setIfInBounds_toArray, List.set_cons_zero, List.set_cons_succ]
          refine wpSched_call (i := 12) (by as_aux_lemma => rw [HO1.out]; simp only [List.getElem?_toArray, List.getElem?_cons_succ, List.getElem?_cons_zero]; rfl) (by rfl) (fun K' hK => ?_)
          refine oper_append_rats _ _ rfl rfl HA7.out rfl rfl HR7.out (fun h => by cases h) HLN.out hs7 ?_
          intro v8 w8 h8
          have hne : ∀ o, some (Addr.mk b o none).block ≠ _ := fun _ => (HKP.out.2.2.1 b rfl).symm
          have kk8 := And.intro (And.intro (h8.grown.cell kk7.1.1 (hne _)) (And.intro (h8.grown.cell kk7.1.2.1 (hne _)) (h8.grown.cell kk7.1.2.2 (hne _)))) (And.intro (h8.grown.cell kk7.2.1 (hne _)) (And.intro (h8.grown.cell kk7.2.2.1 (hne _)) (h8.grown.cell kk7.2.2.2 (hne _))))
          clear hne
          go_wp2_with fail
          refine hK.out _ _ kk8 (fun _ => ?_)
          clear hK K'
          try simp only [Act.put, List.setIfInBounds_toArray, List.set_cons_zero, List.set_cons_succ]
          refine wpSched_take (i := 13) (v := ?v1x11) (by as_aux_lemma => rw [HO1.out]; simp only [List.getElem?_toArray, List.getElem?_cons_succ, List.getElem?_cons_zero]; rfl) (Or.inl ⟨(by rfl), ?y1x11⟩) ?r1x11
          case y1x11 => as_aux_lemma => intro wx hSx; (try dsimp only at hSx); go_simp; try with_reducible rfl
          try simp only [Act.put, List.setIfInBounds_toArray, List.set_cons_zero, List.set_cons_succ]
          refine wpSched_end (NoPanic.normal ?_)
          clear HO1 O1
          clear ki4 ki5 ki6
          have hrow := HKP.out.1.up V7
          have hout := HKP.out.2.1.up V7
          have hnx := h8.own
          rw [← HDS.out] at hnx
          have HN8 := Lib.hid (And.intro hnx (And.intro (hrow.kept h8 HKP.out.2.2.1) (And.intro (hout.kept h8 HKP.out.2.2.2) (And.intro (HKP.out.2.2.1.grown h8 hrow) (HKP.out.2.2.2.grown h8 hout)))))
          have hV8 : Up w w8 := h8.below hV7 HA7.out hs7
          clear hrow hout hnx h8
          go_wp2_with fail
          go_roundw
          case rel => exact ⟨k + 1, by omega, by go_num, HN8, hV8⟩
          case measure => simp [intOf]; omega
        · have t2 : decide ((k : Int) + 1 < (K : Int)) = false := by simp; omega
          have HK2 := Lib.hid (show r + 1 + k = N by have := HK.out; omega)
          obtain ⟨A9, c9, rfl, _, _, _⟩ := hnx.rx
          have HN9 := Lib.hid (And.intro hnx (And.intro hout ha2.symm))
          have HLE := Lib.hid (dRow_len ps (r + 1) k)
          clear hnx hrow hout ha1 ha2 HH
          go_wp2_with fail
          go_roundw
          case rel => exact ⟨r + 1, k, HK2, ⟨A9, c9, by rw [HLE.out]⟩, HN9, hU⟩
          case measure => simp [HLE.out]; omega
    · have t1 : decide (0 < K) = false := by simpa using hK
      have hr2 : r = N := by have := HK.out; omega
      rw [hr2] at hout
      obtain ⟨A9, c9, rfl, _, _, hr9⟩ := hout.rx
      have HCN := Lib.hid (rCanon_q (cap := c9) hr9 (HDN.out N (by omega)) (by omega) (by rw [newton_len]; omega))
      clear hrow hout hap HH hr2 hr9
      go_wp2_with fail
      refine HCN.out.mono ?_
      rintro e w9 ⟨A10, c10, rfl, h1, h2, h3, h4⟩
      have H9 := Lib.hid (And.intro h1 (And.intro h2 h3))
      clear h1 h2 h3
      go_wp2_with fail
      go_ret
      exact ⟨A10, c10, rfl, H9.out.1, H9.out.2.1, H9.out.2.2, hU.trans h4⟩
end Go.Proofs.Ytkngegcfdabpoaa
