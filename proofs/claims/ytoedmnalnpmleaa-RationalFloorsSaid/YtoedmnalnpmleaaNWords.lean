/-
  Natural numbers in memory: slices of limbs.
-/
import Derived.Test.YtoedmnalnpmleaaRows
import Derived.Test.YtoedmnalnpmleaaWords2
import Derived.Test.YtoedmnalnpmleaaLimbs
namespace Go.Proofs.Ytoedmnalnpmleaa
open Go.RowKit

def zs (ns : List Nat) : List Int := ns.map fun (n : Nat) => (n : Int)
@[simp] theorem zs_length (ns : List Nat) : (zs ns).length = ns.length := by simp [zs]
theorem zs_append (a b : List Nat) : zs (a ++ b) = zs a ++ zs b := by simp [zs]
theorem zs_take (a : List Nat) (k : Nat) : zs (a.take k) = (zs a).take k := by simp [zs, List.map_take]

theorem zs_one (xs : List Nat) (n : Nat) {z : Int} (h : z = n) : zs (xs ++ [n]) = zs xs ++ [z] := by simp [zs, h]
theorem SI.nat {w : World} {B : Nat} {A : Option Addr} {ns : List Nat} (h : SI w B .u32 A (zs ns)) {k : Nat} (hk : k < ns.length) : ∃ ad, A = some ad ∧ ad.block < B ∧ w.cell? (ad.add k) = some (.int .u32 (ns[k] : Int)) := by
  obtain ⟨ad, e, hb, hc⟩ := h.at_ (k := k) (by simpa using hk)
  exact ⟨ad, e, hb, by rw [hc]; simp [zs]⟩

/-- The slice at A, of ln x elements, holds the canonical limbs of x. -/
def NS (w : World) (A : Option Addr) (x : Nat) : Prop := SI w w.heap.size .u32 A (zs (digs x))
theorem NS.up {w w' : World} {A : Option Addr} {x : Nat} (h : NS w A x) (hu : Up w w') : NS w' A x := SI.up h hu
theorem NS.zero {w : World} {A : Option Addr} : NS w A 0 := by unfold NS; rw [digs_zero]; exact SI.nil_

/-- A call returns the canonical limbs of x, and writes nothing that was there. -/
def RetN (w0 : World) (x : Nat) (e : Ending) (w' : World) : Prop := ∃ A c, e = .returned (.slice A (ln x) c) ∧ ln x ≤ c ∧ c ≤ 9223372036854775807 ∧ NS w' A x ∧ Up w0 w'

theorem RetN.nil {w0 w' : World} (h : Up w0 w') : RetN w0 0 (.returned (.slice none 0 0)) w' := ⟨none, 0, by rw [ln_zero], by rw [ln_zero]; omega, by omega, NS.zero, h⟩

theorem tabN : IntTab Try.prog 38 36 .u32 := by
  have h : (Try.prog.info? 36).map (fun i => (i.zero, i.size, i.bytes)) = some (some (.int .u32 0), 1, 4) := by kernel_rfl
  obtain ⟨i0, hi, hz0, hz1, hz2⟩ := info_parts h
  exact ⟨Try.underlying38, Try.underlying36, i0, hi, hz0, hz1, by omega⟩
theorem tabU : IntTab Try.prog 22 36 .u32 := by
  have h : (Try.prog.info? 36).map (fun i => (i.zero, i.size, i.bytes)) = some (some (.int .u32 0), 1, 4) := by kernel_rfl
  obtain ⟨i0, hi, hz0, hz1, hz2⟩ := info_parts h
  exact ⟨Try.underlying22, Try.underlying36, i0, hi, hz0, hz1, by omega⟩

/-- Block g is the limbs ns, and nothing else. -/
def BN (w : World) (g : Nat) (ns : List Nat) : Prop := Blk w g 36 ((zs ns).map (Value.int .u32)).toArray
theorem BN.zeros {w : World} {g n : Nat} (h : Blk w g 36 ((List.replicate n (0 : Int)).map (Value.int .u32)).toArray) : BN w g (List.replicate n 0) := by
  unfold BN zs; rw [List.map_replicate]; exact h
theorem BN.lt {w : World} {g : Nat} {ns : List Nat} (h : BN w g ns) : g < w.heap.size := Blk.lt h
theorem BN.cell {w : World} {g : Nat} {ns : List Nat} (h : BN w g ns) {k : Nat} (hk : k < ns.length) : w.cell? ⟨g, k, none⟩ = some (.int .u32 (ns[k] : Int)) := by
  rw [Blk.cell h k]; simp [zs, hk]
theorem BN.frozen {w : World} {g : Nat} {ns : List Nat} (h : BN w g ns) (k : Nat) : w.frozen? ⟨g, k, none⟩ = false := Blk.frozen h k
theorem BN.si {w : World} {g : Nat} {ns : List Nat} (h : BN w g ns) : SI w w.heap.size .u32 (some ⟨g, 0, none⟩) (zs ns) := SI.blk _ h h.lt
theorem BN.set_ {w : World} {g : Nat} {ns : List Nat} (h : BN w g ns) (k n : Nat) {z : Int} (hz : z = n) : BN (w.setCell ⟨g, k, none⟩ (.int .u32 z)) g (ns.set k n) := by
  have := Blk.set_ h k (.int .u32 z)
  unfold BN
  rw [show ((zs (ns.set k n)).map (Value.int .u32)).toArray = ((zs ns).map (Value.int .u32)).toArray.setIfInBounds k (.int .u32 z) from by
    simp [zs, hz]]
  exact this
/-- A window of a block. -/
theorem BN.mid {w : World} {g : Nat} {pre us post : List Nat} (h : BN w g (pre ++ us ++ post)) {i : Nat} (hi : i < us.length) : w.cell? ⟨g, pre.length + i, none⟩ = some (.int .u32 (us[i] : Int)) := by
  rw [h.cell (k := pre.length + i) (by simp; omega)]
  simp [hi]
theorem BN.setMid {w : World} {g : Nat} {pre us post : List Nat} (h : BN w g (pre ++ us ++ post)) (i n : Nat) (hi : i < us.length) {z : Int} (hz : z = n) : BN (w.setCell ⟨g, pre.length + i, none⟩ (.int .u32 z)) g (pre ++ us.set i n ++ post) := by
  have := h.set_ (pre.length + i) n hz
  rwa [List.append_assoc, List.set_append_right _ _ (by omega), Nat.add_sub_cancel_left, List.set_append_left _ _ (by omega), ← List.append_assoc] at this
theorem BN.far {w : World} {g : Nat} {ns : List Nat} (h : BN w g ns) {p : Addr} (hp : g ≠ p.block) (u : Value) : BN (w.setCell p u) g ns := Blk.far h hp u
theorem BN.drew {w : World} {g : Nat} {ns : List Nat} (h : BN w g ns) : BN w.drew g ns := h
theorem BN.drewN {w : World} {g : Nat} {ns : List Nat} (h : BN w g ns) (n : Nat) : BN (w.drewN n) g ns := h
theorem BN.up {w w' : World} {g : Nat} {ns : List Nat} (h : BN w g ns) (hu : Up w w') : BN w' g ns := Blk.up h hu

theorem only_drewN {a w : World} {row : Option Nat} (h : a.grownBy w row) (n : Nat) : a.grownBy (w.drewN n) row := ⟨h.os, h.tape, h.output, h.size, h.block⟩
theorem only_setCell {a w : World} {g : Nat} (h : a.grownBy w (some g)) {p : Addr} (hp : p.block = g) (u : Value) : a.grownBy (w.setCell p u) (some g) :=
  ⟨h.os, h.tape, h.output, by simpa [World.setCell] using h.size, fun i hi hne => (Below.heap_setCell w p u i (by rintro rfl; exact hne (by rw [hp]))).trans (h.block i hi hne)⟩
theorem BN.only {a w : World} {g g' : Nat} {ns : List Nat} (h : BN a g ns) (ho : a.grownBy w (some g')) (hne : g ≠ g') : BN w g ns := (ho.block g h.lt (by simpa using hne)).trans h
end Go.Proofs.Ytoedmnalnpmleaa
