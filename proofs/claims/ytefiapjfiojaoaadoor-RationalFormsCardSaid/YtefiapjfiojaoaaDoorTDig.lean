/-
  The decimal digits of a natural number, limb by limb; the text of a number. No walk here.
-/
import Derived.Test.YtefiapjfiojaoaaDoorTText
namespace Go.Proofs.YtefiapjfiojaoaaDoor
open Go

def dch (n : Nat) : UInt8 := UInt8.ofNat (48 + n)
/-- The last k digits. -/
def lowd : Nat → Nat → List UInt8
  | 0, _ => []
  | k + 1, v => lowd k (v / 10) ++ [dch (v % 10)]
theorem lowd_length (k v : Nat) : (lowd k v).length = k := by
  induction k generalizing v with
  | zero => rfl
  | succ k ih => rw [lowd, List.length_append, ih]; rfl
theorem lowd_cons (k v : Nat) : lowd (k + 1) v = dch (v / 10 ^ k % 10) :: lowd k v := by
  induction k generalizing v with
  | zero => simp [lowd]
  | succ k ih =>
    show lowd (k + 1) (v / 10) ++ [dch (v % 10)] = dch (v / 10 ^ (k + 1) % 10) :: (lowd k (v / 10) ++ [dch (v % 10)])
    rw [ih, List.cons_append, Nat.div_div_eq_div_mul, Nat.pow_succ, Nat.mul_comm 10 (10 ^ k)]
theorem dec_small {u : Nat} (h : u < 10) : Lib.decDigits u = [dch u] := Lib.decDigits_one h
theorem dec_big {u : Nat} (h : ¬ u < 10) : Lib.decDigits u = Lib.decDigits (u / 10) ++ [dch (u % 10)] := by rw [Lib.decDigits, dif_neg h]; rfl
theorem dec_low (V k c : Nat) (hV : 1 ≤ V) (hc : c < 10 ^ k) : Lib.decDigits (V * 10 ^ k + c) = Lib.decDigits V ++ lowd k c := by
  induction k generalizing c with
  | zero =>
    have : c = 0 := by simpa using hc
    subst this
    simp [lowd]
  | succ k ih =>
    have hp : 10 ^ (k + 1) = 10 ^ k * 10 := Nat.pow_succ ..
    have h1 : V * 10 ^ (k + 1) = V * 10 ^ k * 10 := by rw [hp, Nat.mul_assoc]
    have h0 : 1 ≤ 10 ^ k := Nat.pow_pos (by omega)
    have h2 : 1 ≤ V * 10 ^ k := Nat.mul_le_mul hV h0
    have hc2 : c / 10 < 10 ^ k := by omega
    rw [dec_big (by omega), show (V * 10 ^ (k + 1) + c) / 10 = V * 10 ^ k + c / 10 from by omega, show (V * 10 ^ (k + 1) + c) % 10 = c % 10 from by omega, ih _ hc2, lowd, List.append_assoc]
theorem lowd_zero (k : Nat) : lowd k 0 = List.replicate k 48 := by
  induction k with
  | zero => rfl
  | succ k ih => rw [lowd, Nat.zero_div, ih, List.replicate_succ']; rfl
theorem dec_pad (k c : Nat) (hk : 1 ≤ k) (hc : c < 10 ^ k) : List.replicate (k - (Lib.decDigits c).length) 48 ++ Lib.decDigits c = lowd k c := by
  induction k generalizing c with
  | zero => omega
  | succ k ih =>
    by_cases h : c < 10
    · rw [dec_small h, lowd, show c / 10 = 0 from by omega, lowd_zero, Nat.mod_eq_of_lt h]
      rfl
    · have hp : 10 ^ (k + 1) = 10 ^ k * 10 := Nat.pow_succ ..
      have hk1 : 1 ≤ k := by
        rcases Nat.eq_zero_or_pos k with e | e
        · subst e; simp at hc; omega
        · exact e
      rw [dec_big h, lowd, ← ih (c / 10) hk1 (by omega), List.length_append, List.length_singleton, Nat.add_sub_add_right, List.append_assoc]
theorem dec_len_le {k c : Nat} (hk : 1 ≤ k) (hc : c < 10 ^ k) : (Lib.decDigits c).length ≤ k := by
  have h := congrArg List.length (dec_pad k c hk hc)
  rw [List.length_append, List.length_replicate, lowd_length] at h
  omega
theorem dec_len_pos (c : Nat) : 1 ≤ (Lib.decDigits c).length := by rw [Lib.decDigits_length]; exact Lib.nDigits_pos c

/-- One limb on, from the top. -/
theorem dec_limb {V c : Nat} (hV : 1 ≤ V) (hc : c < 1000000000) : Lib.decDigits (c + 1000000000 * V) = Lib.decDigits V ++ (List.replicate (9 - (Lib.decDigits c).length) 48 ++ Lib.decDigits c) := by
  have h := dec_low V 9 c hV (by simpa using hc)
  rw [dec_pad 9 c (by omega) (by simpa using hc), ← h]
  rw [show (10 : Nat) ^ 9 = 1000000000 from rfl, Nat.mul_comm, Nat.add_comm]
theorem dec_limb9 {V c : Nat} (hV : 1 ≤ V) (hc : c < 1000000000) : Lib.decDigits (c + 1000000000 * V) = Lib.decDigits V ++ lowd 9 c := by
  rw [dec_limb hV hc, dec_pad 9 c (by omega) (by simpa using hc)]
theorem nv_top {x : Nat} {k : Nat} (hk : k < ln x) : 1 ≤ nv ((digs x).drop k) := by
  have hc := can_digs x
  have hne : (digs x).drop k ≠ [] := by
    intro h
    have := congrArg List.length h
    rw [List.length_drop] at this
    have h2 : (digs x).length = ln x := rfl
    simp at this; omega
  have h3 : Can ((digs x).drop k) := by
    refine ⟨fun a ha => hc.1 a (List.mem_of_mem_drop ha), ?_⟩
    have e := List.take_append_drop k (digs x)
    intro h
    refine hc.2 ?_
    rw [← e, List.getLast?_append, h]
    rfl
  have := can_nv h3 hne
  omega
theorem dec_drop {x k : Nat} (hk : k < ln x) : nv ((digs x).drop k) = (digs x)[k]'hk + 1000000000 * nv ((digs x).drop (k + 1)) := nv_drop _ k hk

/-- The text of a number. -/
def ftext (q : Rat) : List UInt8 := (if q.num < 0 then [45] else []) ++ (Lib.decDigits q.num.natAbs ++ (if q.den = 1 then [] else 47 :: Lib.decDigits q.den))

theorem dch_dig {n : Nat} (h : n < 10) : isDig (dch n) = true ∧ (dch n).toNat - 48 = n := by
  have e : (dch n).toNat = 48 + n := by
    unfold dch
    rw [UInt8.toNat_ofNat']
    omega
  unfold isDig
  rw [e]
  exact ⟨by simp; omega, by omega⟩
theorem dec_dig (n : Nat) : (Lib.decDigits n).all isDig = true ∧ dval (Lib.decDigits n) = n := by
  induction n using Nat.strongRecOn with
  | ind n ih =>
    by_cases h : n < 10
    · rw [dec_small h]
      obtain ⟨h1, h2⟩ := dch_dig h
      refine ⟨by simp [h1], ?_⟩
      show 0 * 10 + ((dch n).toNat - 48) = n
      omega
    · obtain ⟨h1, h2⟩ := ih (n / 10) (by omega)
      obtain ⟨h3, h4⟩ := dch_dig (n := n % 10) (by omega)
      rw [dec_big h, List.all_append, dval_snoc, h2, h4, h1]
      refine ⟨by simp [h3], by omega⟩
theorem dec_noslash (n : Nat) : ∀ b ∈ Lib.decDigits n, b ≠ 47 ∧ b ≠ 45 := by
  intro b hb
  have h := List.all_eq_true.1 (dec_dig n).1 b hb
  unfold isDig at h
  simp only [Bool.and_eq_true, decide_eq_true_eq] at h
  constructor <;> (intro e; subst e; simp at h)
theorem pdig_dec {n : Nat} (h : ln n ≤ 22) : pdig (Lib.decDigits n) = some n := by
  have h1 := dec_len_pos n
  have h2 : (Lib.decDigits n).length ≤ 198 := dec_len_le (by omega) (by
    rw [ln_le] at h
    exact Nat.lt_of_lt_of_le h (by rw [show (1000000000 : Nat) = 10 ^ 9 from rfl, ← Nat.pow_mul]; exact Nat.le_refl _))
  rw [pdig_some h1 (by omega) (dec_dig n).1, (dec_dig n).2]
theorem dec_len198 {n : Nat} (h : ln n ≤ 22) : (Lib.decDigits n).length ≤ 198 := dec_len_le (by omega) (by
  rw [ln_le] at h
  exact Nat.lt_of_lt_of_le h (by rw [show (1000000000 : Nat) = 10 ^ 9 from rfl, ← Nat.pow_mul]; exact Nat.le_refl _))
theorem ftext_len {q : Rat} (h : qs q ≤ 22) : (ftext q).length ≤ 1000 := by
  have h1 := dec_len198 (Nat.le_trans (qs_num q) h)
  have h2 := dec_len198 (Nat.le_trans (qs_den q) h)
  unfold ftext
  split <;> split <;> simp <;> omega
theorem slash_pre (a b : List UInt8) (ha : ∀ x ∈ a, x ≠ 47) : slash (a ++ 47 :: b) = a.length := by
  refine slash_at (by simp) (by simp) fun j hj hlt => ?_
  rw [List.getElem_append_left hlt]
  exact ha _ (List.getElem_mem hlt)
/-- What is formatted is read back. -/
theorem ptext_ftext {q : Rat} (h : qs q ≤ 22) : ptext (ftext q) = some q := by
  have hn : ln q.num.natAbs ≤ 22 := Nat.le_trans (qs_num q) h
  have hd : ln q.den ≤ 22 := Nat.le_trans (qs_den q) h
  have hb : ∀ t, (t = Lib.decDigits q.num.natAbs ++ (if q.den = 1 then [] else 47 :: Lib.decDigits q.den)) → ∀ s : Bool, ptext2 s t = some (fq s q.num.natAbs q.den) := by
    intro t ht s
    by_cases h1 : q.den = 1
    · rw [if_pos h1, List.append_nil] at ht
      subst ht
      have hs : slash (Lib.decDigits q.num.natAbs) = (Lib.decDigits q.num.natAbs).length := slash_none fun j hj => (dec_noslash _ _ (List.getElem_mem hj)).1
      rw [h1]
      exact p2_int (by rw [hs, List.take_length]; exact pdig_dec hn) (by rw [hs]; omega)
    · rw [if_neg h1] at ht
      have hs : slash t = (Lib.decDigits q.num.natAbs).length := by rw [ht]; exact slash_pre _ _ fun x hx => (dec_noslash _ x hx).1
      refine p2_frac ?_ ?_ ?_ q.den_nz
      · rw [hs, ht, List.take_left]; exact pdig_dec hn
      · rw [hs, ht, List.length_append, List.length_cons]; omega
      · rw [hs, ht, show Lib.decDigits q.num.natAbs ++ 47 :: Lib.decDigits q.den = (Lib.decDigits q.num.natAbs ++ [47]) ++ Lib.decDigits q.den by simp, List.drop_left' (by simp)]
        exact pdig_dec hd
  unfold ptext
  have hself := fq_self q
  by_cases hs : q.num < 0
  · have e : ftext q = 45 :: (Lib.decDigits q.num.natAbs ++ (if q.den = 1 then [] else 47 :: Lib.decDigits q.den)) := by unfold ftext; rw [if_pos hs]; rfl
    have hp : Lib.hasPrefix (ftext q) [45] = true := by rw [e]; simp [Lib.hasPrefix, List.isPrefixOf]
    rw [trim_eq, hp, if_pos rfl, hb _ (by rw [e]; rfl)]
    rw [decide_eq_true hs] at hself
    rw [hself]
  · have e : ftext q = Lib.decDigits q.num.natAbs ++ (if q.den = 1 then [] else 47 :: Lib.decDigits q.den) := by unfold ftext; rw [if_neg hs]; rfl
    have hp : Lib.hasPrefix (ftext q) [45] = false := by
      rw [e]
      cases hdd : Lib.decDigits q.num.natAbs with
      | nil => have := dec_len_pos q.num.natAbs; rw [hdd] at this; simp at this
      | cons b r =>
        have := (dec_noslash q.num.natAbs b (by rw [hdd]; exact List.mem_cons_self)).2
        simp [Lib.hasPrefix, List.isPrefixOf]
        exact fun h => this h.symm
    rw [trim_eq, hp, if_neg (by simp), hb _ e]
    rw [decide_eq_false hs] at hself
    rw [hself]
end Go.Proofs.YtefiapjfiojaoaaDoor
