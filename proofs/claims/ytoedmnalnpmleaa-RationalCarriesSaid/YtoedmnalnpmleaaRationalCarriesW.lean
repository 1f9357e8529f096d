/-
  RationalCarries: for every list of words and every place, the law returns true. Conditions: none.
-/
import Derived.Test.YtoedmnalnpmleaaRFrame
namespace Go.Proofs.Ytoedmnalnpmleaa
open Go.RowKit

theorem OI.lit0 (w : World) (z : Int) {base : Nat} (hb : base ≤ w.heap.size) : OI (w.alloc (.cells #[.int .u32 z] 36)) base 36 .u32 (.slice (some ⟨w.heap.size, 0, none⟩) 1 1) [z] :=
  World.ownsRow_lit (size := 1) w #[.int .u32 z] 1 hb (by simp [maxLen]) (by simp)
section
variable {w : World} {base : Nat} {e : TypeId} {g c : Nat} {ms : List Nat}
theorem OI.cellAt {n : Nat} (h : OI w base e .u32 (.slice (some ⟨g, 0, none⟩) n c) (zs ms)) {k z : Nat} (hz : ms[k]? = some z) : w.cell? ⟨g, k, none⟩ = some (.int .u32 (z : Int)) := by
  obtain ⟨hk, hz2⟩ := List.getElem?_eq_some_iff.1 hz
  have h2 := World.ownsRow.cells h (g := g) rfl k (.int .u32 (z : Int)) (by simp [zs, hz])
  rw [show (⟨g, 0, none⟩ : Addr).add k = ⟨g, k, none⟩ from by unfold Addr.add; split <;> simp_all] at h2
  exact h2
theorem OI.stored {n : Nat} (h : OI w base e .u32 (.slice (some ⟨g, 0, none⟩) n c) (zs ms)) (k : Nat) {z : Nat} {y : Int} (hy : y = z) : OI (w.setCell ⟨g, k, none⟩ (.int .u32 y)) base e .u32 (.slice (some ⟨g, 0, none⟩) n c) (zs (ms.set k z)) := by
  have hn : n = (zs ms).length := by
    obtain ⟨A, c', hv, _⟩ := h.form
    injection hv
  subst hy hn
  have h2 := World.ownsRow.stored h k (.int .u32 (z : Int))
  unfold OI
  rw [show (zs (ms.set k z)).length = (zs ms).length from by simp [zs], show (zs (ms.set k z)).map (Value.int .u32) = ((zs ms).map (Value.int .u32)).set k (.int .u32 (z : Int)) from by simp [zs, List.map_set]]
  exact h2.1
theorem OI.frozenAt {n : Nat} (h : OI w base e .u32 (.slice (some ⟨g, 0, none⟩) n c) (zs ms)) (k : Nat) : w.frozen? ⟨g, k, none⟩ = false := by
  have hn : n = (zs ms).length := by
    obtain ⟨A, c', hv, _⟩ := h.form
    injection hv
  subst hn
  exact World.ownsRow.frozenAt h k
end
theorem carry_nv {ns : List Nat} {k z u : Nat} (hz : (ns ++ [0])[k]? = some z) (hu : (ns ++ [0])[k + 1]? = some u) (hu0 : u ≠ 0) :
    nv (((ns ++ [0]).set k (z + 1000000000)).set (k + 1) (u - 1)) = nv ns := by
  obtain ⟨hk0, hz⟩ := List.getElem?_eq_some_iff.1 hz
  obtain ⟨hk, hu⟩ := List.getElem?_eq_some_iff.1 hu
  have h0 := nv_zeros ns 1
  have h1 := nv_set (ns ++ [0]) k (z + 1000000000) hk0
  have h2 := nv_set ((ns ++ [0]).set k (z + 1000000000)) (k + 1) (u - 1) (by simpa using hk)
  rw [List.getElem_set, if_neg (by omega), hu] at h2
  rw [hz] at h1
  simp only [List.replicate] at h0
  rw [h0] at h1
  obtain ⟨v, rfl⟩ : ∃ v, u = v + 1 := ⟨u - 1, by omega⟩
  rw [Nat.add_sub_cancel] at h2
  have e3 : 1000000000 ^ (k + 1) = 1000000000 ^ k * 1000000000 := Nat.pow_succ 1000000000 k
  rw [Nat.mul_add] at h1
  rw [Nat.mul_add, Nat.mul_one] at h2
  rw [Nat.add_sub_cancel]
  generalize 1000000000 ^ (k + 1) * v = a at *
  generalize 1000000000 ^ k * z = b at *
  omega

set_option maxRecDepth 100000 in
set_option maxHeartbeats 6400000 in
theorem RationalCarries_walk (A : Option Addr) (ca : Nat) (l : List Int) (x : Int) (w : World) (hr : SI w w.heap.size .u32 A l) (hl : l.length ≤ ca) (hm : ca ≤ 9223372036854775807) (hw : ∀ n ∈ l, (Lit.int .u32 n).wf = true) (hx : (Lit.int .i64 x).wf = true) :
    Calls Try.prog 6 #[.slice A l.length ca, .int .i64 x] w fun e w' => e = .returned (.bool true) ∧ Up w w' := by
  obtain ⟨ns, rfl, h32⟩ := nats_of hw
  rw [zs_length] at hl ⊢
  have hw9 := hm
  clear hw hx
  by_cases h8 : 8 < ns.length
  · have t1 : decide ((8 : Int) < (ns.length : Int)) = true := by simp; omega
    have t2 : decide (8 < ns.length) = true := by simp; omega
    clear h32 hr
    go_enter Try.func6, Try.ntmps6
    go_wp2_with fail
    go_ret
    exact ⟨rfl, Up.refl _⟩
  have t1 : decide ((8 : Int) < (ns.length : Int)) = false := by simp; omega
  have t2 : decide (8 < ns.length) = false := by simp; omega
  by_cases hx0 : x < 0
  · have t3 : decide (x < 0) = true := by simpa using hx0
    clear h32 hr
    go_enter Try.func6, Try.ntmps6
    go_wp2_with fail
    go_ret
    exact ⟨rfl, Up.refl _⟩
  obtain ⟨k, rfl⟩ : ∃ k : Nat, x = (k : Int) := ⟨x.toNat, by omega⟩
  have t3 : decide ((k : Int) < 0) = false := by simp
  by_cases hk : ns.length ≤ k
  · have t4 : decide ((ns.length : Int) ≤ (k : Int)) = true := by simp; omega
    have t5 : decide (ns.length ≤ k) = true := by simp; omega
    clear h32 hr
    go_enter Try.func6, Try.ntmps6
    go_wp2_with fail
    go_ret
    exact ⟨rfl, Up.refl _⟩
  have t4 : decide ((ns.length : Int) ≤ (k : Int)) = false := by simp; omega
  have t5 : decide (ns.length ≤ k) = false := by simp; omega
  obtain ⟨ad, rfl, had, hcell⟩ := hr.nat (k := k) (by omega)
  have hz32 := h32 (ns[k]'(by omega)) (List.getElem_mem _)
  have hzz : (ns ++ [0])[k]? = some (ns[k]'(by omega)) := by rw [List.getElem?_append_left (by omega)]; exact List.getElem?_eq_getElem _
  obtain ⟨z, hz⟩ : ∃ z, z = ns[k]'(by omega) := ⟨_, rfl⟩
  rw [← hz] at hcell hz32 hzz
  have i1 : (k : Int) < ns.length := by omega
  have i2 : (0 : Int) ≤ k := by omega
  by_cases hbig : 3294967295 < z
  · have t6 : decide ((3294967295 : Int) < (z : Int)) = true := by simp; omega
    have t7 : decide (3294967295 < z) = true := by simp; omega
    clear h32 hr hz hzz
    go_enter Try.func6, Try.ntmps6
    go_wp2_with fail
    go_ret
    exact ⟨rfl, Up.refl _⟩
  have t6 : decide ((3294967295 : Int) < (z : Int)) = false := by simp; omega
  have t7 : decide (3294967295 < z) = false := by simp; omega
  have HR := Lib.hid hr
  have H32 := Lib.hid h32
  have HZZ := Lib.hid hzz
  have HK := Lib.hid (show k < ns.length by omega)
  have hz9 : z ≤ 3294967295 := by omega
  obtain ⟨n, hn⟩ : ∃ n, n = ns.length := ⟨_, rfl⟩
  have HN := Lib.hid hn
  have hn8 : n ≤ 8 := by omega
  obtain ⟨zz, hzs⟩ : ∃ zz, zz = zs ns := ⟨_, rfl⟩
  have HZS := Lib.hid hzs
  have hzl : zz.length = n := by rw [hzs, zs_length, hn]
  have hr2 := hr
  rw [← hzs] at hr2
  rw [← hn] at hl t1 t2 t4 t5 i1 ⊢
  clear h32 hr hz hzz hk hbig h8 hx0 hn hzs
  go_enter Try.func6, Try.ntmps6
  go_upto_region 4 with (first
    | (at_builtin; (rw [← hzl]; refine wpList_append_ints rfl (.const (.slice none 0 0)) (.tmp 27) 22 rfl w.heap.size 36 .u32 tabU (.slice none 0 0) [] rfl OI.nil_ w.heap.size (some ad) ca zz rfl hr2 (by simp; omega) (Nat.le_refl _) ?_; intro v2 w2 hA2))
    | (at_builtin; go_must (refine wpList_append_ints rfl (.tmp 28) (.tmp 29) 22 rfl w.heap.size 36 .u32 tabU v2 ([] ++ zz) rfl (hA2.own.alloc _) (w2.heap.size + 1) (some ⟨w2.heap.size, 0, none⟩) 1 [(0 : Int)] rfl (by exact SI.blk _ (Blk.new w2 36 _) (by simp)) (by simp; omega) (by have := hA2.grown.size; simp; omega) ?_; intro v3 w3 hA3)))
  obtain ⟨A3, c3, hv3, hc3, hm3, sA3, hO3⟩ := (hA3.own).form
  have U3 : Up w w3 := hA3.below ((hA2.below (Up.refl w) OI.nil_ (Nat.le_refl _)).alloc hA2.grown.size _) (hA2.own.alloc _) (by have := hA2.grown.size; simp; omega)
  have hms : [] ++ zz ++ [(0 : Int)] = zs (ns ++ [0]) := by rw [HZS.out]; simp [zs]
  have hO := hA3.own
  rw [hms] at hO hv3 sA3
  obtain ⟨g, rfl⟩ : ∃ g, A3 = some ⟨g, 0, none⟩ := by
    rcases hO3 with ⟨e, _⟩ | ⟨g, e, _⟩
    · obtain ⟨_, e2, _⟩ := sA3 (by simp [zs])
      rw [e] at e2; cases e2
    · exact ⟨g, e⟩
  have hg : w.heap.size ≤ g := by
    rcases hO3 with ⟨e, _⟩ | ⟨g', e, _, h2, _⟩
    · cases e
    · injection e with e; injection e with e; omega
  have hlen : (zs (ns ++ [0])).length = n + 1 := by rw [zs_length, HN.out]; simp
  rw [hlen] at hv3
  subst hv3
  obtain ⟨ms, hmse⟩ : ∃ ms, ms = ns ++ [0] := ⟨_, rfl⟩
  have HMS := Lib.hid hmse
  have hzk := HZZ.out
  rw [← hmse] at hO hzk
  obtain ⟨u, hu⟩ : ∃ u, ms[k + 1]? = some u := ⟨ms[k + 1]'(by rw [hmse]; have := HK.out; simp; omega), List.getElem?_eq_getElem _⟩
  have hu32 : u < 4294967296 := by
    have hm := List.mem_of_getElem? hu
    rw [hmse, List.mem_append] at hm
    rcases hm with hm | hm
    · exact H32.out u hm
    · simp at hm; omega
  have HU := Lib.hid hu
  have HZK := Lib.hid hzk
  have b0 := hO.cellAt hu
  have HO := Lib.hid hO
  have i3 : (k : Int) + 1 < (n : Int) + 1 := by omega
  have i4 : (0 : Int) ≤ (k : Int) + 1 := by omega
  have i5 : ((k : Int) + 1).toNat = k + 1 := by omega
  have i6 : (k : Int) < (n : Int) + 1 := by omega
  have hcn : n + 1 ≤ c3 := by rw [hms, hlen] at hc3; exact hc3
  have hcm : c3 ≤ 9223372036854775807 := by simpa [maxLen] using hm3
  have i7 : k ≤ 8 := by omega
  clear hA2 hA3 hc3 hm3 sA3 hO3 hms hlen hmse hzk hu hr2 hO HZZ
  by_cases hu0 : u = 0
  · subst hu0
    go_wp2_with fail
    go_ret
    exact ⟨rfl, U3⟩
  have t8 : ((u : Int) == 0) = false := by simp; omega
  have b1 := HO.out.cellAt HZK.out
  have f1 := HO.out.frozenAt k
  have f2 := HO.out.frozenAt (k + 1)
  have HU0 := Lib.hid hu0
  have u1 : 1 ≤ u := by omega
  clear hu0
  go_upto_region 9 with fail
  obtain ⟨w5, hw5⟩ : ∃ w5, w5 = (w3.setCell ⟨g, k, none⟩ (.int .u32 ((z : Int) + 1000000000))).setCell ⟨g, k + 1, none⟩ (.int .u32 ((u : Int) - 1)) := ⟨_, rfl⟩
  have hO5 : OI w5 w.heap.size 36 .u32 (.slice (some ⟨g, 0, none⟩) (n + 1) c3) (zs ((ms.set k (z + 1000000000)).set (k + 1) (u - 1))) := by
    rw [hw5]
    exact (HO.out.stored k (z := z + 1000000000) (by omega)).stored (k + 1) (z := u - 1) (by have := HU0.out; omega)
  have U5 : Up w w5 := by rw [hw5]; exact Below.setCell (Below.setCell U3 (by simp; omega) _) (by simp; omega) _
  obtain ⟨w6, hw6⟩ : ∃ w6, w6 = w5.alloc (Obj.cells #[Value.int .u32 1] 36) := ⟨_, rfl⟩
  have U56 : Up w5 w6 := by rw [hw6]; exact (Below.refl _ _).alloc (Nat.le_refl _) _
  have h1 : SI w6 w6.heap.size .u32 (some ⟨w5.heap.size, 0, none⟩) (zs [1]) := by
    rw [hw6]
    exact SI.blk (t := 36) [1] (Blk.new' w5 _ #[.int .u32 1] rfl) (by simp)
  have hme : nv ((ms.set k (z + 1000000000)).set (k + 1) (u - 1)) = nv ns := by
    rw [HMS.out]
    exact carry_nv (by rw [← HMS.out]; exact HZK.out) (by rw [← HMS.out]; exact HU.out) HU0.out
  have hm32 : ∀ a ∈ (ms.set k (z + 1000000000)).set (k + 1) (u - 1), a < 4294967296 := by
    intro a ha
    rcases List.mem_or_eq_of_mem_set ha with ha | rfl
    · rcases List.mem_or_eq_of_mem_set ha with ha | rfl
      · rw [HMS.out, List.mem_append] at ha
        rcases ha with ha | ha
        · exact H32.out a ha
        · simp at ha; omega
      · omega
    · omega
  have hml : ((ms.set k (z + 1000000000)).set (k + 1) (u - 1)).length = n + 1 := by rw [List.length_set, List.length_set, HMS.out, HN.out]; simp
  have I1 : IV w6 (.agg #[.bool false, .slice (some ad) n ca, .slice (some ⟨w5.heap.size, 0, none⟩) 1 1]) (fq false (nv ns) (nv [1])) 9 :=
    ⟨false, ns, [1], ⟨some ad, ca, _, 1, by rw [HN.out]; rfl, (HR.out.up U5).up U56, h1, H32.out, by simp, by rw [← HN.out]; exact hl, hm, by simp, by omega⟩, by rw [← HN.out]; omega, by simp, rfl⟩
  have I2 : IV w6 (.agg #[.bool false, .slice (some ⟨g, 0, none⟩) (n + 1) c3, .slice (some ⟨w5.heap.size, 0, none⟩) 1 1]) (fq false (nv ns) (nv [1])) 9 := by
    obtain ⟨A6, c6, hv6, hc6, hm6, sA6, _⟩ := hO5.form
    injection hv6 with hv6 _ hv7
    subst hv6 hv7
    exact ⟨false, _, [1], ⟨_, c3, _, 1, by rw [hml]; rfl, sA6.up U56, h1, hm32, by simp, by rw [hml]; exact hcn, hcm, by simp, by omega⟩, by rw [hml]; omega, by simp, by rw [hme]⟩
  have U6 := U5.trans U56
  rw [← hw5, ← hw6]
  have hsz : w5.heap.size = w3.heap.size := by rw [hw5]; simp
  rw [hsz] at I1 I2
  obtain ⟨o, ho⟩ : ∃ o, o = w3.heap.size := ⟨_, rfl⟩
  obtain ⟨q, hq⟩ : ∃ q, q = fq false (nv ns) (nv [1]) := ⟨_, rfl⟩
  rw [← ho, ← hq] at I1 I2
  rw [← ho]
  have J1 := Lib.hid I1
  have J2 := Lib.hid I2
  have J3 := Lib.hid (show qs q ≤ 10 from I1.qs)
  clear hsz hO5 U5 U56 h1 hme hm32 hml I1 I2 ho hq hw5 hw6 hcell b0 b1 f1 f2 HO HU HZK U3
  go_wp2_with fail
  have T1 := cmp_q J1.out J2.out (by omega)
  rw [Rat.sub_self, sgn_zero] at T1
  refine T1.mono ?_
  rintro e w7 ⟨rfl, U7⟩
  clear T1
  go_wp2_with fail
  refine (canonical_q (J1.out.up U7) (by omega)).mono ?_
  rintro e w8 ⟨v8, rfl, hQ8, U8⟩
  obtain ⟨s8, A8, n8, c8, A8', n8', c8', rfl⟩ := hQ8.shape
  have Q8 := Lib.hid hQ8
  clear hQ8
  go_wp2_with fail
  refine (canonical_q (J2.out.up (U7.trans U8)) (by omega)).mono ?_
  rintro e w9 ⟨v9, rfl, hQ9, U9⟩
  obtain ⟨s9, A9, n9, c9, A9', n9', c9', rfl⟩ := hQ9.shape
  have Q9 := Lib.hid hQ9
  clear hQ9
  go_wp2_with fail
  have T2 := sameRat_q (Q8.out.up U9) Q9.out (by have := J3.out; omega) (by have := J3.out; omega)
  rw [show decide (q = q) = true from by simp] at T2
  refine T2.mono ?_
  rintro e w10 ⟨rfl, U10⟩
  clear T2
  go_wp2_with fail
  refine (awake01_any _).mono ?_
  rintro e w11 ⟨rfl, U11⟩
  go_wp2_with fail
  go_ret
  exact ⟨rfl, ((((U6.trans U7).trans U8).trans U9).trans U10).trans U11⟩
end Go.Proofs.Ytoedmnalnpmleaa
