/-
  Arguments opened: rational numbers; the sanity check of the statements.
-/
import Derived.Test.YtoedmnalnpmleaaRSame
import Derived.Test.YtoedmnalnpmleaaFrameKit
namespace Go.Proofs.Ytoedmnalnpmleaa
open Go.ChangeShapes Go.WideShapes Go.ChangeAt Go.RowKit Go.Joins

section
variable {H : Type} {enc : TypeId × Value → H} {w : World} {base : Nat} {spare : Nat → Bool} {held : Bool}
theorem nats_of {l : List Int} (h : ∀ n ∈ l, (Lit.int .u32 n).wf = true) : ∃ ns : List Nat, l = zs ns ∧ ∀ a ∈ ns, a < 4294967296 := by
  induction l with
  | nil => exact ⟨[], rfl, by simp⟩
  | cons a l ih =>
    obtain ⟨ns, h1, h2⟩ := ih fun n hn => h n (by simp [hn])
    have ha := h a (by simp)
    simp [Lit.wf, IntKind.min, IntKind.max, IntKind.bits, IntKind.signed] at ha
    refine ⟨a.toNat :: ns, ?_, ?_⟩
    · rw [h1]; simp [zs]; omega
    · intro b hb
      rcases List.mem_cons.1 hb with rfl | hb
      · omega
      · exact h2 b hb
set_option maxRecDepth 100000 in
/-- A rational number that came in. -/
theorem rat_arg {v : Value} {d : DataW H} {p : List MemPlace} {b0 : Nat} (hv : Value.okWide Try.prog w .any b0 24 v) (h : DataW.Trod enc Try.prog w 0 spare held 24 v d p) :
    ∃ s xs ys, RV w v s xs ys := by
  obtain ⟨v0, v1, v2, y0, y1, y2, n, rfl, _, _, h0, h1, h2⟩ := open_agg3 Try.underlying24 (by kernel_rfl) (by kernel_rfl) hv h
  obtain ⟨s, es, _⟩ := DataW.trod_bool Try.underlying4 h0
  simp at es
  subst es
  obtain ⟨A, ca, l, rfl, sA, la, ma, wa⟩ := ints_in Try.underlying22 Try.underlying36 (by kernel_rfl) h1
  obtain ⟨B, cb, m, rfl, sB, lb, mb, wb⟩ := ints_in Try.underlying22 Try.underlying36 (by kernel_rfl) h2
  obtain ⟨xs, rfl, hx⟩ := nats_of wa
  obtain ⟨ys, rfl, hy⟩ := nats_of wb
  rw [zs_length] at la lb
  exact ⟨s, xs, ys, A, ca, B, cb, by rw [zs_length, zs_length], sA, sB, hx, hy, la, ma, lb, mb⟩
end
/-- What RV is worth. -/
theorem RV.iv {w : World} {v : Value} {s : Bool} {xs ys : List Nat} (h : RV w v s xs ys) {B : Nat} (h1 : xs.length ≤ B) (h2 : ys.length ≤ B) : IV w v (fq s (nv xs) (nv ys)) B := ⟨s, xs, ys, h, h1, h2, rfl⟩
theorem RV.shape {w : World} {v : Value} {s : Bool} {xs ys : List Nat} (h : RV w v s xs ys) : ∃ A c B d, v = .agg #[.bool s, .slice A xs.length c, .slice B ys.length d] ∧ xs.length ≤ 9223372036854775807 ∧ ys.length ≤ 9223372036854775807 := by
  obtain ⟨A, ca, B, cb, e, _, _, _, _, h1, h2, h3, h4⟩ := h
  exact ⟨A, ca, B, cb, e, by omega, by omega⟩
theorem IV.of_up {w w' : World} {v : Value} {q : Rat} {B : Nat} (h : IV w v q B) (hu : Up w w') : IV w' v q B := h.up hu

theorem qv_lit {w : World} (s : Bool) (a b : Nat) {g h : Nat} {q : Rat} (ha : 0 < a) (ha' : a < 1000000000) (hb : 0 < b) (hb' : b < 1000000000)
    (hg : Blk w g 36 #[.int .u32 (a : Int)]) (hh : Blk w h 36 #[.int .u32 (b : Int)]) (hs : decide (q.num < 0) = s) (hn : q.num.natAbs = a) (hd : q.den = b) :
    QV w (.agg #[.bool s, .slice (some ⟨g, 0, none⟩) 1 1, .slice (some ⟨h, 0, none⟩) 1 1]) q := by
  have d1 : digs a = [a] := digs_small (by omega) ha'
  have d2 : digs b = [b] := digs_small (by omega) hb'
  have l1 : ln a = 1 := by rw [ln, d1]; rfl
  have l2 : ln b = 1 := by rw [ln, d2]; rfl
  unfold QV
  rw [hs, hn, hd]
  refine ⟨some ⟨g, 0, none⟩, 1, some ⟨h, 0, none⟩, 1, by rw [l1, l2], ?_, ?_, by omega, by omega, by omega, by omega⟩
  · unfold NS; rw [d1]; exact SI.blk (t := 36) _ hg hg.lt
  · unfold NS; rw [d2]; exact SI.blk (t := 36) _ hh hh.lt

set_option maxRecDepth 100000 in
set_option maxHeartbeats 1600000 in
theorem awake01_any (w : World) : Calls Try.prog 16 #[] w fun e w' => e = .returned (.bool true) ∧ Up w w' := by
  have H := Lib.hid (fun wx => small_q (w := wx) 6 (-4) (by omega) (by omega) (by omega) (by omega))
  have hq : ((6 : Int) : Rat) / ((-4 : Int) : Rat) = mkRat (-3) 2 := by decide +kernel
  rw [hq] at H
  have h1 : decide ((mkRat (-3) 2).num < 0) = true := by decide +kernel
  have h2 : (mkRat (-3) 2).num.natAbs = 3 := by decide +kernel
  have h3 : (mkRat (-3) 2).den = 2 := by decide +kernel
  have h4 : qs (mkRat (-3) 2) ≤ 1 := by
    unfold qs
    rw [h2, h3, ln, ln, digs_small (by omega) (by omega), digs_small (by omega) (by omega)]
    decide
  obtain ⟨q, hqq⟩ : ∃ q, q = mkRat (-3) 2 := ⟨_, rfl⟩
  rw [← hqq] at H h1 h2 h3 h4
  have HH := Lib.hid (And.intro h1 (And.intro h2 (And.intro h3 h4)))
  clear h1 h2 h3 h4 hqq hq
  go_enter Try.func16, Try.ntmps16
  go_wp2_with fail
  refine (H.out w).mono ?_
  rintro e w1 ⟨v1, rfl, hQ, hU⟩
  obtain ⟨s, A, n, c, A', n', c', rfl⟩ := hQ.shape
  have HQ := Lib.hid hQ
  clear hQ
  go_wp2_with fail
  have b1 : Blk ((w1.alloc (Obj.cells #[Value.int IntKind.u32 3] 36)).alloc (Obj.cells #[Value.int IntKind.u32 2] 36)) w1.heap.size 36 #[.int .u32 ((3 : Nat) : Int)] := (Blk.new w1 _ _).alloc _
  have b2 : Blk ((w1.alloc (Obj.cells #[Value.int IntKind.u32 3] 36)).alloc (Obj.cells #[Value.int IntKind.u32 2] 36)) (w1.heap.size + 1) 36 #[.int .u32 ((2 : Nat) : Int)] := Blk.new' _ _ _ (by simp)
  have U2 : Up w1 ((w1.alloc (Obj.cells #[Value.int IntKind.u32 3] 36)).alloc (Obj.cells #[Value.int IntKind.u32 2] 36)) := ((Below.refl _ _).alloc (Nat.le_refl _) _).alloc (by simp) _
  have HS := sameRat_q (HQ.out.up U2) (qv_lit true 3 2 (by omega) (by omega) (by omega) (by omega) b1 b2 HH.out.1 HH.out.2.1 HH.out.2.2.1) (by have := HH.out.2.2.2; omega) (by have := HH.out.2.2.2; omega)
  rw [show decide (q = q) = true from by simp] at HS
  refine HS.mono ?_
  rintro e w2 ⟨rfl, hU2⟩
  go_wp2_with fail
  go_ret
  exact ⟨rfl, hU.trans (U2.trans hU2)⟩
end Go.Proofs.Ytoedmnalnpmleaa
