/-
  The contract of strconv.FormatUint at base 10: the decimal digits.
-/
import Derived.Test.YtefiapjfiojaoaaDoorTDig
import Derived.Test.YtefiapjfiojaoaaDoorTabW
import Derived.Test.YtefiapjfiojaoaaDoorShelf
import Derived.Test.YtefiapjfiojaoaaDoorPA
import Derived.Lib.ItoaMem
namespace Go.Proofs.YtefiapjfiojaoaaDoor
open Go Go.RowKit Go.Sort Go.Lib

theorem up_grow (w : World) (k : Nat) (os : Array Obj) : Up w (grow (w.drewN k) os) :=
  ⟨rfl, rfl, rfl, by simp [grow], fun j hj => heap_grow_old (w.drewN k) os hj⟩
theorem holds_zero0 (w : World) (T : TypeId) (nd : Nat) (hs : nd ≤ 24) : Holds (fun (b : UInt8) => Value.int .u8 (b.toNat : Int)) (w.alloc (.cells zeros24 T)) w.heap.size 0 (Array.replicate nd (0 : UInt8)) := fun j hj => by
  have hj' : j < nd := by simpa using hj
  refine ⟨?_, World.frozen?_alloc_new _ _ _ _⟩
  rw [World.cell?_alloc_new, zeros24_at _ (by omega), getElem!_pos _ j hj]
  simp
theorem fin_pos0 (w : World) (o : Obj) (dk : Array UInt8) (k : Nat) : Up w ((putRow (fun (b : UInt8) => Value.int .u8 (b.toNat : Int)) (w.alloc o) w.heap.size 0 dk).drewN k) := by
  rw [alloc_eq_grow]
  obtain ⟨os', _, e⟩ := putRow_grow_new (fun (b : UInt8) => Value.int .u8 (b.toNat : Int)) w #[o] w.heap.size 0 dk (Nat.le_refl _)
  rw [e]
  exact up_grow w k os'

set_option maxHeartbeats 6400000 in
set_option maxRecDepth 100000 in
theorem iUint_any (u : Nat) (hu64 : u < 18446744073709551616) (w : World) (htab : TabW w) :
    Calls Tryd.prog 57 #[.int .u64 u, .int .i64 10] w fun e w' => e = .returned (.string ⟨(Lib.decDigits u).toArray⟩) ∧ Up w w' := by
  by_cases hs : u < 100
  · have hb : decide (u < 100) = true := decide_eq_true hs
    go_enter Tryd.func57, Tryd.ntmps57
    go_wp2_with fail
    refine (Tryd.internal_strconv_small u hs _).mono ?_
    rintro e w' ⟨rfl, rfl⟩
    go_wp2_with fail
    go_ret
    exact ⟨rfl, Up.refl _⟩
  · have hb : decide (u < 100) = false := decide_eq_false hs
    have hu1 : 1 ≤ u := by omega
    have hnd20 : Lib.nDigits u ≤ 20 := by have := Lib.numDigits_eq u hu1 hu64; split at this <;> omega
    have hal : Tryd.prog.arrayLen 100 = 24 := by kernel_rfl
    have hsl1 : ∀ W, (Instr.sliceAt 100 (.pointer (some ⟨w.heap.size, 0, none⟩)) none (some (.int .i64 (Lib.nDigits u : Int))) none).run Tryd.prog W = .ok (.slice (some ⟨w.heap.size, 0, none⟩) (Lib.nDigits u) 24) W := fun W => by
      rw [run_sliceAt_array_h W 100 ⟨w.heap.size, 0, none⟩ (by kernel_rfl) .i64 (Lib.nDigits u : Int) (by omega) (by rw [hal]; omega)]
      go_simp
    have hH0 := holds_zero0 w 100 (Lib.nDigits u) (by omega)
    have hfmt := Tryd.internal_strconv_formatBase10 w.heap.size 0 24 u (Array.replicate (Lib.nDigits u) 0) (w.alloc (.cells Lib.zeros24 100)) hH0 (by rw [Array.size_replicate]; exact Lib.lt_pow_nDigits u) hu64 (by rw [Array.size_replicate]; omega)
    rw [Array.size_replicate] at hfmt
    have HH0 := Lib.hid hH0
    have HFM := Lib.hid hfmt
    have HT := Lib.hid htab
    clear hH0 hal hfmt htab
    go_enter Tryd.func57, Tryd.ntmps57
    go_wp2_with fail
    refine (Tryd.internal_strconv_numDigits u hu1 hu64 _ (Lib.tabIs_alloc HT.out _)).mono ?_
    rintro e w' ⟨rfl, rfl⟩
    go_wp2_with fail
    refine HFM.out.mono ?_
    rintro e w' ⟨rfl, k, v', dk, rfl, hF⟩
    have hcv : (convert 67 9 (.slice (some ⟨w.heap.size, 0, none⟩) (Lib.nDigits u) 24)).run Tryd.prog ((putRow (fun (b : UInt8) => Value.int .u8 (b.toNat : Int)) (w.alloc (.cells Lib.zeros24 100)) w.heap.size 0 dk).drewN k) = .ok (.string ⟨(Lib.decDigits u).toArray⟩) ((putRow (fun (b : UInt8) => Value.int .u8 (b.toNat : Int)) (w.alloc (.cells Lib.zeros24 100)) w.heap.size 0 dk).drewN k) := by
      have h := run_convert_bytes_back (P := Tryd.prog) ((putRow (fun (b : UInt8) => Value.int .u8 (b.toNat : Int)) (w.alloc (.cells Lib.zeros24 100)) w.heap.size 0 dk).drewN k) 67 9 5 ⟨w.heap.size, 0, none⟩ 24 (Lib.decDigits u) (by kernel_rfl) (by kernel_rfl) (by kernel_rfl) (fun j hj => by
        rw [Lib.row_is_numeral hF j hj, Lib.add_plain, World.cell?_drewN]
        exact cell?_putRow (fun (b : UInt8) => Value.int .u8 (b.toNat : Int)) _ w.heap.size 0 _ dk HH0.out (by rw [hF.size, Array.size_replicate]) j (by rw [hF.size]; rw [Lib.decDigits_length] at hj; exact hj))
      rw [Lib.decDigits_length] at h
      exact h
    have HU := Lib.hid (fin_pos0 w (.cells Lib.zeros24 100) dk k)
    obtain ⟨w2, hw2⟩ : ∃ w2, w2 = (putRow (fun (b : UInt8) => Value.int .u8 (b.toNat : Int)) (w.alloc (.cells Lib.zeros24 100)) w.heap.size 0 dk).drewN k := ⟨_, rfl⟩
    rw [← hw2] at hcv HU ⊢
    clear hw2 hF
    go_wp2_with fail
    go_ret
    exact ⟨rfl, HU.out⟩
theorem uint_any (u : Nat) (hu64 : u < 18446744073709551616) (w : World) (htab : TabW w) :
    Calls Tryd.prog 44 #[.int .u64 u, .int .i64 10] w fun e w' => e = .returned (.string ⟨(Lib.decDigits u).toArray⟩) ∧ Up w w' := by
  have H := Lib.hid (iUint_any u hu64 w htab)
  clear htab
  go_enter Tryd.func44, Tryd.ntmps44
  go_wp2_with fail
  refine H.out.mono ?_
  rintro e w' ⟨rfl, h⟩
  go_wp2_with fail
  go_ret
  exact ⟨rfl, h⟩
end Go.Proofs.YtefiapjfiojaoaaDoor
