/-
  The contracts of metric.list, metric.Stack and of the law's awake.
-/
import Derived.Test.YtnaeabkknmoaeaaMCost
import Derived.Laws.CopyOwn
namespace Go.Proofs.Ytnaeabkknmoaeaa
open Go.RowKit

theorem Try.info2 : (Try.prog.info? 2).map (fun i => (i.zero, i.size, i.bytes)) = some (some (.int .i64 0), 1, 8) := by kernel_rfl
theorem Try.size2 : (Try.prog.info? 2).map (·.size) = some 1 := by kernel_rfl
def zer26 : List Value := (List.replicate 26 (0 : Int)).map (Value.int .i64)
theorem madeCells_one (v : Value) (n : Nat) : madeCells #[v] n = (List.replicate n v).toArray := by
  apply Array.ext
  · simp [madeCells]
  · intro i h1 h2
    simp [madeCells, Nat.mod_one]
theorem make26 (W : World) : (Instr.makeSlice 22 (.int .i64 26) (.int .i64 26)).run Try.prog W = .ok (.slice (some ⟨W.heap.size, 0, none⟩) 26 26) (W.alloc (.cells zer26.toArray 2)) := by
  obtain ⟨i0, hi, hz0, hz1, hz2⟩ := info_parts Try.info2
  have := run_make (P := Try.prog) W 22 2 i0 (.int .i64 0) Try.underlying22 hi hz0 .i64 .i64 26 26 (by omega) (by omega) (by rw [hz2]; omega) (by omega)
  rw [this, hz1, show (Value.int IntKind.i64 0).cells = #[Value.int .i64 0] from rfl, madeCells_one, zer26, List.map_replicate]
  rfl

set_option maxHeartbeats 800000 in
theorem list_any (A : Option Addr) (cap : Nat) (zs : List Int) (B : Nat) (w : World) (hr : SI w B .i64 A zs) (hB : B ≤ w.heap.size) (hm : zs.length ≤ 26) :
    Calls Try.prog 46 #[.slice A zs.length cap] w fun e w' => e = .returned (.slice (some ⟨w.heap.size, 0, none⟩) 26 26) ∧ Up w w' ∧
      Blk w' w.heap.size 2 ((zs ++ List.replicate (26 - zs.length) 0).map (Value.int .i64)).toArray := by
  have hmk := make26
  have hr' := Lib.hid hr
  clear hr
  obtain ⟨cs, hcs⟩ : ∃ cs, cs = zs.map (Value.int .i64) := ⟨_, rfl⟩
  have hcl : cs.length = zs.length := by rw [hcs]; simp
  have HCS := Lib.hid hcs
  have HCL := Lib.hid hcl
  clear hcs hcl
  go_enter Try.func46, Try.ntmps46
  go_wp2_with (with_reducible refine wpList_copy_splice rfl (.tmp 5) (.tmp 6) 22 22 rfl 2 Try.underlying22 Try.size2 _ _ _ _ _ _ rfl rfl w.heap.size 0 zer26 2 ?c1 cs ?c2 ?c3 ?c4 ?c5 w.heap.size w ?c6 ?c7 ?_)
  case c1 => exact heap_alloc_new w _
  case c2 => rw [HCL.out]; simp [Nat.min_def]; omega
  case c3 =>
    intro h
    rw [HCL.out] at h
    obtain ⟨ad, e, hb, hc⟩ := hr'.out h
    refine ⟨ad, e, fun j v hj => ?_⟩
    rw [HCS.out, List.getElem?_map] at hj
    rw [World.cell?_alloc_lt _ _ _ (by rw [block_of_add]; omega)]
    by_cases hjl : j < zs.length
    · rw [hc j hjl]; simpa [hjl] using hj
    · simp [List.getElem?_eq_none (by omega : zs.length ≤ j)] at hj
  case c4 => rw [HCL.out]; simp [zer26]; omega
  case c5 => intro v hv; rw [HCS.out] at hv; simp at hv; obtain ⟨a, _, rfl⟩ := hv; rfl
  case c6 => exact (Below.refl _ _).alloc (Nat.le_refl _) _
  case c7 => exact Nat.le_refl _
  intro w2 HG hb2
  go_wp2
  go_ret
  refine ⟨rfl, hb2, ?_⟩
  have := HG.out
  rw [show splice zer26 0 cs = (zs ++ List.replicate (26 - zs.length) 0).map (Value.int .i64) from by
    rw [HCS.out]; simp only [splice, zer26, List.map_replicate, List.take_zero, List.nil_append, Nat.zero_add, List.drop_replicate, List.length_map, List.map_append]] at this
  exact this

/-- A metric's value in a world: two slices that read as its lists. -/
def MetV (w : World) (v : Value) (b f : List Int) : Prop :=
  ∃ A c B d, v = .agg #[.slice A b.length c, .slice B f.length d] ∧ SI w w.heap.size .i64 A b ∧ SI w w.heap.size .i64 B f
theorem MetV.up {w w' : World} {v : Value} {b f : List Int} (h : MetV w v b f) (hu : Up w w') : MetV w' v b f := by
  obtain ⟨A, c, B, d, e, h1, h2⟩ := h
  exact ⟨A, c, B, d, e, h1.up hu, h2.up hu⟩

def stackB : List Int := [0, 0, 0, 0, 0, 0, 0, 0, 0, 1, 1, -1, 0, 0, 0, 0, 0, 0, 0, 0, 0, 0, 0, 0, 0, -1]
def zero26 : List Int := List.replicate 26 0

set_option maxHeartbeats 800000 in
theorem stack_any (w : World) : Calls Try.prog 27 #[] w fun e w' => ∃ v, e = .returned v ∧ MetV w' v stackB zero26 ∧ Up w w' := by
  go_enter Try.func27, Try.ntmps27
  go_wp2_with fail
  refine (list_any (some ⟨w.heap.size + 1, 0, none⟩) 26 stackB (w.heap.size + 2) _ (by refine SI.blk (t := 2) stackB ?_ (by simp); exact Blk.new' (w.alloc _) 2 _ (by simp)) (by simp) (by decide)).mono ?_
  rintro e w1 ⟨rfl, hb1, hB1⟩
  have b0 := ((Blk.new w 28 _).alloc _).up hb1
  go_wp2_with fail
  refine (list_any none 0 [] 0 _ SI.nil_ (by simp) (by decide)).mono ?_
  rintro e w2 ⟨rfl, hb2, hB2⟩
  have b2 := b0.up hb2
  have c0 := b2.cell 0
  have c1 := b2.cell 1
  have f0 := b2.frozen 0
  have f1 := b2.frozen 1
  simp at c0 c1
  have d1 := hB1.up hb2
  rw [World.size_alloc, World.size_alloc] at d1
  have HD1 := Lib.hid d1
  have HD2 := Lib.hid hB2
  have z1 : w.heap.size < w1.heap.size := by have := hb1.size; simp at this; omega
  clear d1 hB1 hB2
  go_wp2
  refine bodyPost_ret (v := .agg #[.slice (some ⟨w.heap.size + 2, 0, none⟩) 26 26, .slice (some ⟨w1.heap.size, 0, none⟩) 26 26]) ?_ rfl ?_
  · simp [results, Try.results27, go_sem, c0, c1]
  · have z2 : w1.heap.size < w2.heap.size := HD2.out.lt
    refine ⟨_, rfl, ⟨_, 26, _, 26, rfl, ?_, ?_⟩, ?_⟩
    · refine SI.blk (t := 2) stackB ?_ (by have := HD1.out.lt; simp at this ⊢; omega)
      exact Blk.far (p := ⟨w.heap.size, 1, none⟩) (Blk.far (p := ⟨w.heap.size, 0, none⟩) HD1.out (by simp <;> omega) _) (by simp <;> omega) _
    · refine SI.blk (t := 2) zero26 ?_ (by simp; omega)
      exact Blk.far (p := ⟨w.heap.size, 1, none⟩) (Blk.far (p := ⟨w.heap.size, 0, none⟩) HD2.out (by simp <;> omega) _) (by simp <;> omega) _
    · exact ((below_up (below_up (((Below.refl _ _).alloc (Nat.le_refl _) _).alloc (by simp) _) hb1 (by simp; omega)) hb2 (by omega)).setCell (by simp) _).setCell (by simp) _

set_option maxHeartbeats 800000 in
theorem awake_any (w : World) : Calls Try.prog 17 #[] w fun e w' => e = .returned (.bool true) ∧ Up w w' := by
  have ev : validB stackB zero26 = true := by decide
  have e1 : costV stackB zero26 9 2 = 1 := by decide
  have e2 : costV stackB zero26 11 2 = -1 := by decide
  have E := Lib.hid (And.intro ev (And.intro e1 e2))
  clear ev e1 e2
  go_enter Try.func17, Try.ntmps17
  go_wp2_with fail
  refine (stack_any _).mono ?_
  rintro e w1 ⟨v, rfl, hv, hb1⟩
  obtain ⟨A, c, B, d, rfl, hA, hB⟩ := hv
  have b1 := Blk.new w1 28 #[Value.slice A stackB.length c, Value.slice B zero26.length d]
  have HA1 := Lib.hid (hA.up ((Below.refl _ w1).alloc (Nat.le_refl _) (.cells #[Value.slice A stackB.length c, Value.slice B zero26.length d] 28)))
  have HB1 := Lib.hid (hB.up ((Below.refl _ w1).alloc (Nat.le_refl _) (.cells #[Value.slice A stackB.length c, Value.slice B zero26.length d] 28)))
  have c0 := b1.cell 0
  have c1 := b1.cell 1
  clear hA hB
  go_wp2_with fail
  have V := valid_any A c B d stackB zero26 _ HA1.out HB1.out (by decide) (by decide)
  rw [E.out.1] at V
  refine V.mono ?_
  rintro e w2 ⟨rfl, hb2⟩
  have HA2 := Lib.hid (HA1.out.up hb2)
  have HB2 := Lib.hid (HB1.out.up hb2)
  have b2 := b1.up hb2
  have d0 := b2.cell 0
  have d1 := b2.cell 1
  clear V
  go_wp2_with fail
  have V := cost_any A c B d stackB zero26 9 2 _ HA2.out HB2.out (by decide) (by decide)
  rw [E.out.2.1] at V
  refine V.mono ?_
  rintro e w3 ⟨rfl, hb3⟩
  have HA3 := Lib.hid (HA2.out.up hb3)
  have HB3 := Lib.hid (HB2.out.up hb3)
  have b3 := b2.up hb3
  have e0 := b3.cell 0
  have e1 := b3.cell 1
  clear V
  go_wp2_with fail
  have V := cost_any A c B d stackB zero26 11 2 _ HA3.out HB3.out (by decide) (by decide)
  rw [E.out.2.2] at V
  refine V.mono ?_
  rintro e w4 ⟨rfl, hb4⟩
  clear V
  go_wp2_with fail
  go_ret
  exact ⟨rfl, Up.trans (Up.trans (Up.trans (hb1.alloc hb1.size _) (by exact hb2)) hb3) hb4⟩
end Go.Proofs.Ytnaeabkknmoaeaa
