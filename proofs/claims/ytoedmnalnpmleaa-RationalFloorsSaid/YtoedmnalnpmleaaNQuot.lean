/-
  The contract of rational.quotientLimb.
-/
import Derived.Test.YtoedmnalnpmleaaNSmall
import Derived.Test.YtoedmnalnpmleaaKnuth
namespace Go.Proofs.Ytoedmnalnpmleaa
open Go.RowKit

/-- A limb of the quotient, and the rest in the window. -/
def QL (w0 : World) (gu : Nat) (pre post : List Nat) (n q r : Nat) (e : Ending) (w' : World) : Prop :=
  e = .returned (.int .u32 q) ∧ ∃ us : List Nat, us.length = n + 3 ∧ (∀ a ∈ us, a < 1000000000) ∧ nv us = r ∧ BN w' gu (pre ++ us ++ post) ∧ w0.grownBy w' (some gu)

/-- The guess and the rest in the loop that corrects it. -/
def GRel (q h t : Nat) (gv rv : Value) : Prop := ∃ g r : Nat, gv = .int .u64 g ∧ rv = .int .u64 r ∧ g * t + r = h ∧ q ≤ g ∧ r < 2000000000
theorem grel_step {q h t g r : Nat} (hg : g * t + r = h) (hq : q < g) (hr : r < 1000000000) (ht : t < 1000000000) : GRel q h t (.int .u64 ((g : Int) - 1)) (.int .u64 ((r : Int) + t)) := by
  refine ⟨g - 1, r + t, ?_, ?_, ?_, by omega, by omega⟩
  · rw [show ((g : Int) - 1) = ((g - 1 : Nat) : Int) from by omega]
  · rw [Int.natCast_add]
  · obtain ⟨k, rfl⟩ : ∃ k, g = k + 1 := ⟨g - 1, by omega⟩
    rw [Nat.add_mul, Nat.one_mul] at hg
    rw [Nat.add_sub_cancel]
    omega

/-- The multiply-and-subtract loop: i limbs done, borrow b, window xs. -/
structure K2 (us vs : List Nat) (g n i b : Nat) (xs : List Nat) : Prop where
  il : i ≤ n + 2
  b9 : b ≤ 1000000000
  len : xs.length = n + 3
  x9 : ∀ a ∈ xs, a < 1000000000
  same : ∀ j, i ≤ j → xs.getD j 0 = us.getD j 0
  eq : nv (xs.take i) + g * nv (vs.take i) = nv (us.take i) + 1000000000 ^ i * b
theorem take_set_self (l : List Nat) (i s : Nat) : (l.set i s).take i = l.take i := by
  rw [List.take_set]
  exact List.set_eq_of_length_le (by simp; omega)
theorem getD_set_self {l : List Nat} {i : Nat} (s : Nat) (h : i < l.length) : (l.set i s).getD i 0 = s := by simp [h]
theorem getD_set_ne {l : List Nat} {i j : Nat} (s : Nat) (h : i ≠ j) : (l.set i s).getD j 0 = l.getD j 0 := by
  simp [List.getD, h]
theorem K2.start {us vs : List Nat} {g n : Nat} (hl : us.length = n + 3) (h9 : ∀ a ∈ us, a < 1000000000) : K2 us vs g n 0 0 us :=
  ⟨Nat.zero_le _, by omega, hl, h9, fun _ _ => rfl, by simp [nv]⟩
theorem K2.step {us vs xs : List Nat} {g n i b s b' a v : Nat} (h : K2 us vs g n i b xs) (hi : i < n + 2) (ha : a = us.getD i 0) (hv : v = vs.getD i 0) (hs : s < 1000000000) (hb : b' ≤ 1000000000)
    (e : s + g * v + b = a + 1000000000 * b') : K2 us vs g n (i + 1) b' (xs.set i s) := by
  have hl := h.len
  refine ⟨by omega, hb, by simp [hl], set_lt h.x9 hs, fun j hj => ?_, ?_⟩
  · rw [getD_set_ne _ (by omega)]; exact h.same j (by omega)
  · rw [nv_take' (xs.set i s) i, nv_take' vs i, nv_take' us i, take_set_self, getD_set_self _ (by omega), ← ha, ← hv]
    exact knuth_step h.eq e rfl
/-- The loop that adds the divisor back. -/
structure K3 (xs vs : List Nat) (n i c : Nat) (ys : List Nat) : Prop where
  il : i ≤ n + 2
  c1 : c ≤ 1
  len : ys.length = n + 3
  y9 : ∀ a ∈ ys, a < 1000000000
  same : ∀ j, i ≤ j → ys.getD j 0 = xs.getD j 0
  eq : nv (ys.take i) + 1000000000 ^ i * c = nv (xs.take i) + nv (vs.take i)
theorem K3.start {xs vs : List Nat} {n : Nat} (hl : xs.length = n + 3) (h9 : ∀ a ∈ xs, a < 1000000000) : K3 xs vs n 0 0 xs :=
  ⟨Nat.zero_le _, by omega, hl, h9, fun _ _ => rfl, by simp [nv]⟩
theorem K3.step {xs vs ys : List Nat} {n i c y v : Nat} (h : K3 xs vs n i c ys) (hi : i < n + 2) (hy : y = ys.getD i 0) (hv : v = vs.getD i 0) (hy9 : y < 1000000000) (hv9 : v < 1000000000) :
    K3 xs vs n (i + 1) ((y + v + c) / 1000000000) (ys.set i ((y + v + c) % 1000000000)) := by
  have hl := h.len
  have hc := h.c1
  refine ⟨by omega, by omega, by simp [hl], set_lt h.y9 (by omega), fun j hj => ?_, ?_⟩
  · rw [getD_set_ne _ (by omega)]; exact h.same j (by omega)
  · rw [nv_take' (ys.set i _) i, nv_take' vs i, nv_take' xs i, take_set_self, getD_set_self _ (by omega), ← h.same i (by omega), ← hy, ← hv]
    have h1 := h.eq
    have e : (y + v + c) % 1000000000 + 1000000000 * ((y + v + c) / 1000000000) = y + v + c := Nat.mod_add_div _ _
    have e2 : 1000000000 ^ i * ((y + v + c) % 1000000000 + 1000000000 * ((y + v + c) / 1000000000)) = 1000000000 ^ i * (y + v + c) := by rw [e]
    rw [Nat.mul_add, Nat.mul_add, Nat.mul_add] at e2
    rw [show 1000000000 ^ (i + 1) * ((y + v + c) / 1000000000) = 1000000000 ^ i * (1000000000 * ((y + v + c) / 1000000000)) from by rw [Nat.pow_succ, Nat.mul_assoc]]
    omega
theorem window_end {zs : List Nat} {n l : Nat} (hl : zs.length = n + 3) : nv (zs.set (n + 2) l) = nv (zs.take (n + 2)) + 1000000000 ^ (n + 2) * l := by
  have h : (zs.set (n + 2) l).take (n + 3) = zs.set (n + 2) l := List.take_of_length_le (by simp [hl])
  rw [← h, nv_take' _ (n + 2), take_set_self, getD_set_self _ (by omega)]
/-- Nothing to add back. -/
theorem K2.yes {us vs xs : List Nat} {g n b : Nat} (h : K2 us vs g n (n + 2) b xs) (hu : us.length = n + 3) (hv : vs.length = n + 2) (hV : 0 < nv vs) (hq : nv us / nv vs ≤ g) (hb : b ≤ us.getD (n + 2) 0) :
    g = nv us / nv vs ∧ nv (xs.set (n + 2) (us.getD (n + 2) 0 - b)) = nv us % nv vs := by
  rw [window_end h.len]
  have e := h.eq
  rw [List.take_of_length_le (by omega : vs.length ≤ n + 2)] at e
  refine knuth_yes (un := us.getD (n + 2) 0) ?_ e (by omega) hq hV
  rw [← nv_take' us (n + 2), List.take_of_length_le (by omega)]
theorem K2.no {us vs xs ys : List Nat} {g n b c : Nat} (h : K2 us vs g n (n + 2) b xs) (h3 : K3 xs vs n (n + 2) c ys) (hu : us.length = n + 3) (hv : vs.length = n + 2) (hV : 0 < nv vs) (hb : us.getD (n + 2) 0 < b) (hgV : g * nv vs < nv us + nv vs) :
    g = nv us / nv vs + 1 ∧ us.getD (n + 2) 0 + c = b ∧ nv (ys.set (n + 2) 0) = nv us % nv vs := by
  rw [window_end h3.len]
  have e := h.eq
  have e3 := h3.eq
  have hxl := h.len
  have hyl := h3.len
  rw [List.take_of_length_le (by omega : vs.length ≤ n + 2)] at e e3
  have hx := nv_lt (xs.take (n + 2)) (fun a ha => h.x9 a (List.mem_of_mem_take ha))
  have hy := nv_lt (ys.take (n + 2)) (fun a ha => h3.y9 a (List.mem_of_mem_take ha))
  rw [List.length_take, Nat.min_eq_left (by omega)] at hx hy
  have := knuth_no (un := us.getD (n + 2) 0) (by rw [← nv_take' us (n + 2), List.take_of_length_le (by omega)]) e hb hx e3 hy hgV hV h3.c1
  exact ⟨this.1, this.2.1, by rw [Nat.mul_zero, Nat.add_zero]; exact this.2.2⟩
/-- The two words of the inner loop: s + d B and c + d. -/
def S2 (s c : Int) (sv cv : Value) : Prop := ∃ d : Int, sv = .int .i64 (s + 1000000000 * d) ∧ cv = .int .i64 (c + d) ∧ 0 ≤ d ∧ d ≤ 2 ∧ (d = 0 ∨ s + 1000000000 * (d - 1) < 0)

set_option maxRecDepth 100000 in
set_option maxHeartbeats 12800000 in
theorem quotientLimb_any (gu gv n cu cv : Nat) (pre us post vs vpost : List Nat) (w : World) (hu : BN w gu (pre ++ us ++ post)) (hv : BN w gv (vs ++ vpost)) (hne : gu ≠ gv)
    (hul : us.length = n + 3) (hvl : vs.length = n + 2) (hu9 : ∀ a ∈ us, a < 1000000000) (hv9 : ∀ a ∈ vs, a < 1000000000) (ht : vs[n + 1] ≠ 0) (hlt : nv us < nv vs * 1000000000) (hn : n ≤ 17179869184) :
    Calls Try.prog 42 #[.slice (some ⟨gu, pre.length, none⟩) (n + 3) cu, .slice (some ⟨gv, 0, none⟩) (n + 2) cv] w (QL w gu pre post n (nv us / nv vs) (nv us % nv vs)) := by
  have L := lead_of hul hvl hu9 hv9 ht hlt
  have c0 := hu.mid (i := n) (by omega)
  have c1 := hu.mid (i := n + 1) (by omega)
  have c2 := hu.mid (i := n + 2) (by omega)
  have d0 := hv.cell (k := n) (by simp; omega)
  have d1 := hv.cell (k := n + 1) (by simp; omega)
  rw [List.getElem_append_left (by omega)] at d0 d1
  have b0 := hu9 us[n] (List.getElem_mem _)
  have b1 := hu9 us[n + 1] (List.getElem_mem _)
  have b2 := hu9 us[n + 2] (List.getElem_mem _)
  have b3 := hv9 vs[n] (List.getElem_mem _)
  have b4 := hv9 vs[n + 1] (List.getElem_mem _)
  have t1 := L.t1
  obtain ⟨u0, hu0⟩ : ∃ x, x = us[n] := ⟨_, rfl⟩
  obtain ⟨u1, hu1⟩ : ∃ x, x = us[n + 1] := ⟨_, rfl⟩
  obtain ⟨u2, hu2⟩ : ∃ x, x = us[n + 2] := ⟨_, rfl⟩
  obtain ⟨s, hs⟩ : ∃ x, x = vs[n] := ⟨_, rfl⟩
  obtain ⟨t, htt⟩ : ∃ x, x = vs[n + 1] := ⟨_, rfl⟩
  rw [← hu0, ← hu1, ← hu2, ← hs, ← htt] at L
  rw [← hu0] at c0 b0
  rw [← hu1] at c1 b1
  rw [← hu2] at c2 b2
  rw [← hs] at d0 b3
  rw [← htt] at d1 b4 t1
  have HL := Lib.hid L
  have HU2 := Lib.hid (show us.getD (n + 2) 0 = u2 from by rw [hu2]; simp [show n + 2 < us.length from by omega])
  have HU := Lib.hid hu
  have HV := Lib.hid hv
  have HUL := Lib.hid hul
  have HVL := Lib.hid hvl
  have HU9 := Lib.hid hu9
  have HV9 := Lib.hid hv9
  have HNE := Lib.hid hne
  clear L hu0 hu1 hu2 hs htt hu hv hul hvl hu9 hv9 hne ht hlt
  go_enter Try.func42, Try.ntmps42
  go_wp2_with fail
  go_quiet (fail)
  go_wp2_with fail
  go_quiet (fail)
  go_wp2_with fail
  go_quiet (fail)
  go_wp2_with fail
  go_loop [9, 10] (fun gv' rv => GRel (nv us / nv vs) (u2 * 1000000000 + u1) t gv' rv) (fun gv' _ => (intOf gv').toNat)
  case atStart =>
    refine ⟨(u2 * 1000000000 + u1) / t, (u2 * 1000000000 + u1) % t, ?_, ?_, ?_, HL.out.first (Nat.div_mul_le_self _ _), ?_⟩
    · simp
    · simp
    · rw [Nat.mul_comm]; exact Nat.div_add_mod _ _
    · have := Nat.mod_lt (u2 * 1000000000 + u1) t1; omega
  case round =>
    obtain ⟨g, r, rfl, rfl, hgr, hq, hr⟩ := hrel
    have hg2 := HL.out.twice hgr
    have HGR := Lib.hid hgr
    have HQ := Lib.hid hq
    have hgs : g * s ≤ 2000000000 * 1000000000 := Nat.mul_le_mul (by omega) (by omega)
    have hzu : (0 : Int) ≤ (g : Int) * s ∧ (g : Int) * s ≤ 2000000000000000000 := by
      rw [← Int.natCast_mul]; omega
    by_cases hb : r < 1000000000 ∧ (1000000000 ≤ g ∨ r * 1000000000 + u0 < g * s)
    · have hdn := HL.out.down hgr (Nat.div_mul_le_self _ _) hb.2
      have HDN := Lib.hid hdn
      have hg0 : 0 < g := Nat.lt_of_le_of_lt (Nat.zero_le _) hdn
      obtain ⟨hb1, hb2⟩ := hb
      have hr1 : decide ((r : Int) < 1000000000) = true := by simp; omega
      clear hgr hq hdn
      by_cases hgB : 1000000000 ≤ g
      · have hg1 : decide ((1000000000 : Int) ≤ g) = true := by simp; omega
        clear hb2
        go_wp2_with fail
        go_round
        case rel => exact grel_step HGR.out HDN.out hb1 b4
        case measure => simp [intOf]; omega
      · have hb3 : r * 1000000000 + u0 < g * s := by omega
        have hg1 : decide ((1000000000 : Int) ≤ g) = false := by simp; omega
        have hb4 : decide ((r : Int) * 1000000000 + u0 < (g : Int) * s) = true := by
          simp only [decide_eq_true_eq]; rw [← Int.natCast_mul g s]; omega
        clear hb2
        go_wp2_with fail
        go_round
        case rel => exact grel_step HGR.out HDN.out hb1 b4
        case measure => simp [intOf]; omega
    · have hst := HL.out.stop hgr (by omega)
      have HST := Lib.hid hst.2
      have hg9 := hst.1
      have hb2 : decide ((r : Int) < 1000000000) = false ∨ ((r : Int) < 1000000000 ∧ decide ((1000000000 : Int) ≤ g) = false ∧ decide ((r : Int) * 1000000000 + u0 < (g : Int) * s) = false) := by
        by_cases h1 : r < 1000000000
        · right
          refine ⟨by omega, by simp; omega, ?_⟩
          simp only [decide_eq_false_iff_not]; rw [← Int.natCast_mul g s]; omega
        · left; simp; omega
      clear hgr hq hst hb
      rcases hb2 with hb | ⟨hb, hb', hb''⟩
      all_goals
        go_wp2_with fail
        clear hgs hzu hg2
        go_loopw [11, 78] (fun bv iv wr => ∃ (i b : Nat) (xs : List Nat), bv = .int .i64 b ∧ iv = .int .i64 i ∧ Hid (K2 us vs g n i b xs) ∧ BN wr gu (pre ++ xs ++ post) ∧ w.grownBy wr (some gu)) (fun _ iv _ => n + 2 - (intOf iv).toNat)
        case atStart =>
          refine ⟨0, 0, us, rfl, rfl, Lib.hid (K2.start HUL.out HU9.out), HU.out, ?_⟩
          exact ⟨rfl, rfl, rfl, Nat.le_refl _, fun _ _ _ => rfl⟩
        case round =>
          obtain ⟨i, b, xs, rfl, rfl, HK, hB, hG⟩ := hrel
          have hb9 := HK.out.b9
          have hil := HK.out.il
          have hxl := HK.out.len
          by_cases hi : i < n + 2
          · have hix : i < xs.length := by omega
            have cu := hB.mid hix
            have fu := hB.frozen (pre.length + i)
            have cv := (HV.out.only hG (Ne.symm HNE.out)).cell (k := i) (by simp; have := HVL.out; omega)
            rw [List.getElem_append_left (by have := HVL.out; omega)] at cv
            have a9 := HK.out.x9 xs[i] (List.getElem_mem _)
            have v9 := HV9.out (vs[i]'(by have := HVL.out; omega)) (List.getElem_mem _)
            obtain ⟨a, ha⟩ : ∃ x, x = xs[i] := ⟨_, rfl⟩
            obtain ⟨v, hv⟩ : ∃ x, x = vs[i]'(by have := HVL.out; omega) := ⟨_, rfl⟩
            rw [← ha] at cu a9
            rw [← hv] at cv v9
            have HA := Lib.hid (show a = us.getD i 0 from by rw [← HK.out.same i (Nat.le_refl _), ha]; simp [hix])
            have HVV := Lib.hid (show v = vs.getD i 0 from by rw [hv]; simp [List.getD, show i < vs.length from by have := HVL.out; omega])
            have hgv : (0 : Int) ≤ (g : Int) * v ∧ (g : Int) * v ≤ 999999998000000001 := by
              have h1 : g * v ≤ 999999999 * 999999999 := Nat.mul_le_mul (by omega) (by omega)
              rw [← Int.natCast_mul]; omega
            obtain ⟨p, hp⟩ : ∃ p : Int, p = (g : Int) * v := ⟨_, rfl⟩
            have HP := Lib.hid hp
            rw [← hp] at hgv
            have HBB := Lib.hid hB
            have e1 : IntKind.u64.wrap ((g : Int) * v) = p := by rw [← hp]; exact IntWalk.u64_in _ (by omega)
            have e2 : IntKind.i64.wrap ((a : Int) - b) = (a : Int) - b := IntWalk.i64_in _ (by omega)
            have e3 : IntKind.i64.wrap ((a : Int) - b - p % 1000000000) = (a : Int) - b - p % 1000000000 := IntWalk.i64_in _ (by omega)
            have e4 : IntKind.i64.wrap (p % 1000000000) = p % 1000000000 := IntWalk.i64_in _ (by omega)
            have e5 : IntKind.u64.wrap (p % 1000000000) = p % 1000000000 := IntWalk.u64_in _ (by omega)
            have e6 : IntKind.i64.wrap (a : Int) = a := IntWalk.i64_in _ (by omega)
            have i1 : (i : Int) < (n : Int) + 3 := by omega
            have i2 : (i : Int) < (n : Int) + 2 := by omega
            clear ha hv hB hp
            go_wp2_with fail
            go_quiet (fail)
            go_wp2_with fail
            go_loop [13, 11] (fun sv cv => S2 ((a : Int) - b - p % 1000000000) (p / 1000000000) sv cv) (fun sv _ => (1000000000 - intOf sv).toNat)
            case atStart => exact ⟨0, by simp, by simp, Int.le_refl _, by decide, Or.inl rfl⟩
            case round =>
              obtain ⟨d, rfl, rfl, hd0, hd2, hd⟩ := hrel
              obtain ⟨s, hs⟩ : ∃ s : Int, s = (a : Int) - b - p % 1000000000 + 1000000000 * d := ⟨_, rfl⟩
              rw [← hs]
              have HS := Lib.hid hs
              by_cases hsn : s < 0
              · have hd1 : d ≤ 1 := by omega
                have s1 : -2000000000 ≤ s := by omega
                have hd' : (0 : Int) ≤ p / 1000000000 + d ∧ p / 1000000000 + d ≤ 2000000000 := by omega
                clear hd hs
                go_wp2_with fail
                go_round
                case rel => exact ⟨d + 1, congrArg (Value.int .i64) (by have := HS.out; omega), congrArg (Value.int .i64) (by omega), Int.add_nonneg hd0 (by decide), Int.add_le_add_right hd1 1, Or.inr (by have := HS.out; omega)⟩
                case measure => simp [intOf]; omega
              · have hs9 : s < 1000000000 := by omega
                obtain ⟨t, rfl⟩ : ∃ t : Nat, s = t := ⟨s.toNat, by omega⟩
                obtain ⟨b', hb'⟩ : ∃ b' : Nat, p / 1000000000 + d = b' := ⟨(p / 1000000000 + d).toNat, by omega⟩
                have HE := Lib.hid (show t + g * v + b = a + 1000000000 * b' from by
                  have hp' := HP.out
                  rw [← Int.natCast_mul] at hp'
                  omega)
                rw [hb']
                have hb9' : b' ≤ 1000000000 := by omega
                clear hd hs hb'
                go_wp2_with fail
                go_roundw
                case rel =>
                  exact ⟨i + 1, b', xs.set i t, rfl, by go_num, Lib.hid (HK.out.step hi HA.out HVV.out (by omega) hb9' HE.out), HBB.out.setMid i t (by omega) rfl, only_setCell (only_drewN hG _) rfl _⟩
                case measure => simp [intOf]; omega
          · have hi' : i = n + 2 := by omega
            have hlf : decide ((i : Int) < (n : Int) + 2) = false := by simp; omega
            rw [hi'] at HK
            clear hi hil hi'
            have hcl := hB.mid (i := n + 2) (by omega)
            have hfl := hB.frozen (pre.length + (n + 2))
            have hxu : xs[n + 2] = u2 := by
              have h1 := HK.out.same (n + 2) (Nat.le_refl _)
              rw [HU2.out] at h1
              rw [← h1]
              simp [show n + 2 < xs.length from by omega]
            rw [hxu] at hcl
            have HBB := Lib.hid hB
            have hgB : g < 1000000000 := hg9
            have t1' : ((n : Int) + 2).toNat = n + 2 := by omega
            have t2' : IntKind.i64.wrap ((u2 : Int) - b) = (u2 : Int) - b := IntWalk.i64_in _ (by omega)
            have HVP := Lib.hid (Nat.lt_of_lt_of_le (Nat.mul_pos (by decide : 0 < 1000000000) HL.out.e1) HL.out.vpos)
            by_cases hbu : b ≤ u2
            · have hsg : decide (b ≤ u2) = true := by simp; omega
              have HY := Lib.hid (HK.out.yes HUL.out HVL.out HVP.out HQ.out (by rw [HU2.out]; exact hbu))
              have s0 : (0 : Int) ≤ (u2 : Int) - b := by omega
              have s1 : (u2 : Int) - b < 1000000000 := by omega
              have HZ := Lib.hid (show (u2 : Int) - b = ((u2 - b : Nat) : Int) from by omega)
              clear hB hxu hbu
              go_wp2_with fail
              go_ret
              refine ⟨congrArg (fun x : Nat => Ending.returned (Value.int .u32 (x : Int))) HY.out.1, xs.set (n + 2) (u2 - b), by rw [List.length_set]; exact hxl, set_lt HK.out.x9 (by omega), ?_, HBB.out.setMid (n + 2) (u2 - b) (by omega) HZ.out, only_setCell hG rfl _⟩
              rw [← HY.out.2, HU2.out]
            · have hsg : decide (b ≤ u2) = false := by simp; omega
              have hbu' : u2 < b := by omega
              clear hB hxu hbu
              go_wp2_with fail
              go_loopw [15, 136] (fun cv' iv wr => ∃ (i c : Nat) (ys : List Nat), cv' = .int .u32 c ∧ iv = .int .i64 i ∧ Hid (K3 xs vs n i c ys) ∧ BN wr gu (pre ++ ys ++ post) ∧ w.grownBy wr (some gu)) (fun _ iv _ => n + 2 - (intOf iv).toNat)
              case atStart => exact ⟨0, 0, xs, rfl, rfl, Lib.hid (K3.start hxl HK.out.x9), HBB.out, hG⟩
              case round =>
                obtain ⟨i, c, ys, rfl, rfl, HK3, hB, hG3⟩ := hrel
                have hc1 := HK3.out.c1
                have hil3 := HK3.out.il
                have hyl := HK3.out.len
                by_cases hi : i < n + 2
                · have hix : i < ys.length := by omega
                  have cu := hB.mid hix
                  have fu := hB.frozen (pre.length + i)
                  have cv := (HV.out.only hG3 (Ne.symm HNE.out)).cell (k := i) (by simp; have := HVL.out; omega)
                  rw [List.getElem_append_left (by have := HVL.out; omega)] at cv
                  have a9 := HK3.out.y9 ys[i] (List.getElem_mem _)
                  have v9 := HV9.out (vs[i]'(by have := HVL.out; omega)) (List.getElem_mem _)
                  obtain ⟨a, ha⟩ : ∃ x, x = ys[i] := ⟨_, rfl⟩
                  obtain ⟨v, hv⟩ : ∃ x, x = vs[i]'(by have := HVL.out; omega) := ⟨_, rfl⟩
                  rw [← ha] at cu a9
                  rw [← hv] at cv v9
                  have HA := Lib.hid (show a = ys.getD i 0 from by rw [ha]; simp [hix])
                  have HVV := Lib.hid (show v = vs.getD i 0 from by rw [hv]; simp [List.getD, show i < vs.length from by have := HVL.out; omega])
                  have HB3 := Lib.hid hB
                  have i1 : (i : Int) < (n : Int) + 3 := by omega
                  have i2 : (i : Int) < (n : Int) + 2 := by omega
                  have e1 : IntKind.u32.wrap ((a : Int) + v) = (a : Int) + v := IntWalk.u32_in _ (by omega)
                  have e2 : IntKind.u32.wrap ((a : Int) + v + c) = (a : Int) + v + c := IntWalk.u32_in _ (by omega)
                  clear ha hv hB
                  go_wp2_with fail
                  go_quiet (fail)
                  go_wp2_with fail
                  go_roundw
                  case rel =>
                    exact ⟨i + 1, (a + v + c) / 1000000000, ys.set i ((a + v + c) % 1000000000), congrArg (Value.int .u32) (by omega), by go_num, Lib.hid (HK3.out.step hi HA.out HVV.out a9 v9), HB3.out.setMid i ((a + v + c) % 1000000000) (by omega) (by omega), only_setCell (only_drewN hG3 _) rfl _⟩
                  case measure => simp [intOf]; omega
                · have hi' : i = n + 2 := by omega
                  have hlf : decide ((i : Int) < (n : Int) + 2) = false := by simp; omega
                  rw [hi'] at HK3
                  clear hi hil3 hi'
                  have hcl := hB.mid (i := n + 2) (by omega)
                  have hfl := hB.frozen (pre.length + (n + 2))
                  have HN := Lib.hid (HK.out.no HK3.out HUL.out HVL.out HVP.out (by rw [HU2.out]; exact hbu') HST.out)
                  have hz : (u2 : Int) - b + c = 0 := by have := HN.out.2.1; rw [HU2.out] at this; omega
                  have hg0 : 0 < g := by rw [HN.out.1]; exact Nat.succ_pos _
                  have HB3 := Lib.hid hB
                  clear hB
                  go_wp2_with fail
                  go_ret
                  refine ⟨congrArg (fun z : Int => Ending.returned (Value.int .u32 z)) (by rw [HN.out.1, Int.natCast_add]; exact Int.add_sub_cancel _ _ : (g : Int) - 1 = ((nv us / nv vs : Nat) : Int)), ys.set (n + 2) 0, by rw [List.length_set]; exact hyl, set_lt HK3.out.y9 (by omega), HN.out.2.2, HB3.out.setMid (n + 2) 0 (by omega) (by omega), only_setCell hG3 rfl _⟩
end Go.Proofs.Ytoedmnalnpmleaa
