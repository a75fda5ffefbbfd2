/- Plain laws of numbers as digits of 2^16: value, one form, the last digit. No program. -/
import Derived.WalkKit
namespace Go.Proofs.YtogmmhacjndebaaDoor
set_option linter.unusedSimpArgs false
set_option linter.unusedVariables false

def valL : List Nat → Nat
  | [] => 0
  | d :: l => d + 65536 * valL l
def DigL (l : List Nat) : Prop := ∀ x ∈ l, x < 65536
theorem DigL.nil : DigL [] := fun x h => by cases h
theorem DigL.cons {d : Nat} {l : List Nat} (hd : d < 65536) (h : DigL l) : DigL (d :: l) := fun x hx => by
  rcases List.mem_cons.1 hx with rfl | hx
  · exact hd
  · exact h x hx
theorem DigL.head {d : Nat} {l : List Nat} (h : DigL (d :: l)) : d < 65536 := h d (List.mem_cons_self ..)
theorem DigL.tail {d : Nat} {l : List Nat} (h : DigL (d :: l)) : DigL l := fun x hx => h x (List.mem_cons_of_mem _ hx)
theorem DigL.app {a b : List Nat} (h : DigL a) (g : DigL b) : DigL (a ++ b) := fun x hx => by
  rcases List.mem_append.1 hx with hx | hx
  · exact h x hx
  · exact g x hx
theorem DigL.take {l : List Nat} (h : DigL l) (k : Nat) : DigL (l.take k) := fun x hx => h x (List.mem_of_mem_take hx)
theorem DigL.drop {l : List Nat} (h : DigL l) (k : Nat) : DigL (l.drop k) := fun x hx => h x (List.mem_of_mem_drop hx)
theorem DigL.getD {l : List Nat} (h : DigL l) (i : Nat) : l.getD i 0 < 65536 := by
  rw [List.getD_eq_getElem?_getD]
  cases e : l[i]? with
  | none => simp
  | some x => exact h x (List.mem_of_getElem? e)
theorem DigL.set {l : List Nat} (h : DigL l) (i d : Nat) (hd : d < 65536) : DigL (l.set i d) := fun x hx => by
  rcases List.mem_or_eq_of_mem_set hx with hx | rfl
  · exact h x hx
  · exact hd
theorem DigL.rep (n : Nat) : DigL (List.replicate n 0) := fun x hx => by
  rw [(List.mem_replicate.1 hx).2]; decide
theorem DigL.map (n : Nat) (f : Nat → Nat) (h : ∀ i, i < n → f i < 65536) : DigL ((List.range n).map f) := fun x hx => by
  obtain ⟨i, hi, rfl⟩ := List.mem_map.1 hx
  exact h i (List.mem_range.1 hi)
theorem val_app : ∀ (a b : List Nat), valL (a ++ b) = valL a + 65536 ^ a.length * valL b
  | [], b => by simp [valL]
  | d :: a, b => by
    rw [List.cons_append, valL, valL, val_app a b, List.length_cons, Nat.pow_succ, Nat.mul_add, ← Nat.mul_assoc, Nat.mul_comm 65536 (65536 ^ a.length)]
    omega
theorem val_one (d : Nat) : valL [d] = d := by simp [valL]
theorem val_snoc (a : List Nat) (d : Nat) : valL (a ++ [d]) = valL a + 65536 ^ a.length * d := by rw [val_app, val_one]
theorem val_rep (n : Nat) : valL (List.replicate n 0) = 0 := by
  induction n with
  | zero => rfl
  | succ n ih => rw [List.replicate_succ, valL, ih]
theorem val_lt : ∀ {l : List Nat}, DigL l → valL l < 65536 ^ l.length
  | [], _ => by simp [valL]
  | d :: l, h => by
    have h1 := h.head
    have h2 := val_lt h.tail
    rw [valL, List.length_cons, Nat.pow_succ]
    have := Nat.mul_le_mul_left 65536 (show valL l + 1 ≤ 65536 ^ l.length from h2)
    omega
theorem val_split (l : List Nat) (k : Nat) (hk : k ≤ l.length) : valL l = valL (l.take k) + 65536 ^ k * valL (l.drop k) := by
  have h := val_app (l.take k) (l.drop k)
  rw [List.take_append_drop, List.length_take, Nat.min_eq_left hk] at h
  exact h
theorem take_succ_getD (l : List Nat) (k : Nat) (hk : k < l.length) : l.take (k + 1) = l.take k ++ [l.getD k 0] := by
  rw [List.take_succ_eq_append_getElem hk]
  congr 2
  rw [List.getD_eq_getElem?_getD, List.getElem?_eq_getElem hk]; rfl
theorem drop_getD (l : List Nat) (k : Nat) (hk : k < l.length) : l.drop k = l.getD k 0 :: l.drop (k + 1) := by
  rw [List.drop_eq_getElem_cons hk]
  congr 1
  rw [List.getD_eq_getElem?_getD, List.getElem?_eq_getElem hk]; rfl
theorem val_take_succ (l : List Nat) (k : Nat) (hk : k < l.length) : valL (l.take (k + 1)) = valL (l.take k) + 65536 ^ k * l.getD k 0 := by
  rw [take_succ_getD l k hk, val_snoc, List.length_take, Nat.min_eq_left (by omega)]
theorem val_drop (l : List Nat) (k : Nat) (hk : k < l.length) : valL (l.drop k) = l.getD k 0 + 65536 * valL (l.drop (k + 1)) := by
  rw [drop_getD l k hk, valL]
theorem take_all {l : List Nat} {k : Nat} (h : l.length ≤ k) : l.take k = l := List.take_of_length_le h
theorem getD_out {l : List Nat} {k : Nat} (h : l.length ≤ k) : l.getD k 0 = 0 := by
  rw [List.getD_eq_getElem?_getD, List.getElem?_eq_none h]; rfl
theorem val_set : ∀ (l : List Nat) (k d : Nat), k < l.length → valL (l.set k d) + 65536 ^ k * l.getD k 0 = valL l + 65536 ^ k * d
  | [], k, d, h => by simp at h
  | x :: l, 0, d, _ => by simp [valL]; omega
  | x :: l, k + 1, d, h => by
    have ih := val_set l k d (by simpa using h)
    have e : (x :: l).getD (k + 1) 0 = l.getD k 0 := by simp
    rw [List.set_cons_succ, valL, valL, e, Nat.pow_succ, Nat.mul_comm (65536 ^ k) 65536, Nat.mul_assoc, Nat.mul_assoc]
    omega
theorem getD_set (l : List Nat) (k d i : Nat) (hk : k < l.length) : (l.set k d).getD i 0 = if i = k then d else l.getD i 0 := by
  rw [List.getD_eq_getElem?_getD, List.getD_eq_getElem?_getD]
  by_cases h : i = k
  · subst h; rw [if_pos rfl, List.getElem?_set_self hk]; rfl
  · rw [if_neg h, List.getElem?_set_ne (Ne.symm h)]

/-- The digits of a number, the lowest first, without noughts at the end. -/
def dg (n : Nat) : List Nat := if h : n = 0 then [] else (n % 65536) :: dg (n / 65536)
termination_by n
decreasing_by omega
theorem dg_zero : dg 0 = [] := by rw [dg]; simp
theorem dg_pos {n : Nat} (h : n ≠ 0) : dg n = (n % 65536) :: dg (n / 65536) := by rw [dg]; simp [h]
theorem val_dg (n : Nat) : valL (dg n) = n := by
  induction n using Nat.strongRecOn with
  | _ n ih =>
    by_cases h : n = 0
    · subst h; rw [dg_zero]; rfl
    · rw [dg_pos h, valL, ih (n / 65536) (by omega)]; omega
theorem dig_dg (n : Nat) : DigL (dg n) := by
  induction n using Nat.strongRecOn with
  | _ n ih =>
    by_cases h : n = 0
    · subst h; rw [dg_zero]; exact DigL.nil
    · rw [dg_pos h]; exact (ih (n / 65536) (by omega)).cons (by omega)
/-- The last digit is not 0. -/
def Topn (l : List Nat) : Prop := l.length = 0 ∨ l.getD (l.length - 1) 0 ≠ 0
instance (l : List Nat) : Decidable (Topn l) := by unfold Topn; infer_instance
def Can (l : List Nat) : Prop := DigL l ∧ Topn l
theorem Topn.tail {d e : Nat} {l : List Nat} (h : Topn (d :: e :: l)) : Topn (e :: l) := by
  rcases h with h | h
  · simp at h
  · refine Or.inr ?_
    simpa using h
theorem dg_val : ∀ {l : List Nat}, Can l → dg (valL l) = l
  | [], _ => dg_zero
  | [d], ⟨h, t⟩ => by
    have h1 := h.head
    have h2 : d ≠ 0 := by
      rcases t with t | t
      · simp at t
      · simpa using t
    rw [val_one, dg_pos h2, show d / 65536 = 0 by omega, dg_zero, show d % 65536 = d by omega]
  | d :: e :: l, ⟨h, t⟩ => by
    have h1 := h.head
    have ih := dg_val (l := e :: l) ⟨h.tail, t.tail⟩
    have hv : valL (d :: e :: l) = d + 65536 * valL (e :: l) := rfl
    by_cases h0 : valL (e :: l) = 0
    · rw [h0, dg_zero] at ih
      cases ih
    · rw [hv, dg_pos (by omega), show (d + 65536 * valL (e :: l)) / 65536 = valL (e :: l) by omega, ih, show (d + 65536 * valL (e :: l)) % 65536 = d by omega]
theorem dg_len_le {n k : Nat} (h : n < 65536 ^ k) : (dg n).length ≤ k := by
  induction k generalizing n with
  | zero => obtain rfl : n = 0 := by simpa using h
            rw [dg_zero]; exact Nat.le_refl _
  | succ k ih =>
    by_cases h0 : n = 0
    · subst h0; rw [dg_zero]; simp
    · rw [dg_pos h0, List.length_cons]
      have := ih (n := n / 65536) (by rw [Nat.pow_succ] at h; omega)
      omega
theorem dg_len_gt {n k : Nat} (h : 65536 ^ k ≤ n) : k < (dg n).length := by
  have h1 := val_lt (dig_dg n)
  rw [val_dg] at h1
  rcases Nat.lt_or_ge k (dg n).length with h2 | h2
  · exact h2
  · have := Nat.pow_le_pow_right (n := 65536) (by decide) h2
    omega
theorem topn_dg (n : Nat) : Topn (dg n) := by
  induction n using Nat.strongRecOn with
  | _ n ih =>
    by_cases h : n = 0
    · subst h; rw [dg_zero]; exact Or.inl rfl
    · rw [dg_pos h]
      by_cases h2 : n / 65536 = 0
      · rw [h2, dg_zero]; refine Or.inr ?_; simp; omega
      · have t := ih (n / 65536) (by omega)
        rw [dg_pos h2] at t ⊢
        rcases t with t | t
        · simp at t
        · refine Or.inr ?_; simpa using t
theorem can_dg (n : Nat) : Can (dg n) := ⟨dig_dg n, topn_dg n⟩
/-- A row of digits is in its one form if its number is not too small for its length. -/
theorem can_of_ge {l : List Nat} (h : DigL l) (hge : l.length = 0 ∨ 65536 ^ (l.length - 1) ≤ valL l) : Can l := by
  refine ⟨h, ?_⟩
  by_cases h0 : l.length = 0
  · exact Or.inl h0
  · rcases hge with hge | hge
    · exact absurd hge h0
    · refine Or.inr ?_
      intro hz
      have e := val_take_succ l (l.length - 1) (by omega)
      rw [show l.length - 1 + 1 = l.length by omega, take_all (Nat.le_refl _), hz] at e
      have h2 := val_lt (h.take (l.length - 1))
      rw [List.length_take, Nat.min_eq_left (by omega)] at h2
      omega
theorem Can.ge {l : List Nat} (h : Can l) (h0 : l.length ≠ 0) : 65536 ^ (l.length - 1) ≤ valL l := by
  rcases h.2 with h1 | h1
  · exact absurd h1 h0
  · have e := val_take_succ l (l.length - 1) (by omega)
    rw [show l.length - 1 + 1 = l.length by omega, take_all (Nat.le_refl _)] at e
    have := Nat.mul_le_mul_left (65536 ^ (l.length - 1)) (show 1 ≤ l.getD (l.length - 1) 0 by omega)
    omega
theorem Can.lt_len {l m : List Nat} (h : Can l) (g : Can m) (hl : l.length < m.length) : valL l < valL m := by
  have h1 := val_lt h.1
  have h2 := g.ge (by omega)
  have := Nat.pow_le_pow_right (n := 65536) (by decide) (show l.length ≤ m.length - 1 by omega)
  omega
/-- A row cut where only noughts follow. -/
theorem trim_end {l : List Nat} {k : Nat} (h : DigL l) (hk : k ≤ l.length) (e : valL (l.take k) = valL l) (ht : k = 0 ∨ l.getD (k - 1) 0 ≠ 0) : l.take k = dg (valL l) := by
  rw [← e]
  refine (dg_val ⟨h.take k, ?_⟩).symm
  unfold Topn
  rw [List.length_take, Nat.min_eq_left hk]
  rcases ht with ht | ht
  · exact Or.inl ht
  · by_cases h0 : k = 0
    · exact Or.inl h0
    · refine Or.inr ?_
      rw [List.getD_eq_getElem?_getD] at ht ⊢
      rw [List.getElem?_take_of_lt (by omega)]
      exact ht
theorem trim_step {l : List Nat} {k : Nat} (hk : k < l.length) (e : valL (l.take (k + 1)) = valL l) (hz : l.getD k 0 = 0) : valL (l.take k) = valL l := by
  rw [← e, val_take_succ l k hk, hz]; omega
/-- Lists of one length stand as their first difference from the top. -/
theorem val_cmp {a b : List Nat} (ha : DigL a) (hb : DigL b) (hl : a.length = b.length) {k : Nat} (hk : k < a.length) (e : a.drop (k + 1) = b.drop (k + 1)) (h : a.getD k 0 < b.getD k 0) : valL a < valL b := by
  have s1 := val_split a (k + 1) (by omega)
  have s2 := val_split b (k + 1) (by omega)
  rw [val_take_succ a k hk] at s1
  rw [val_take_succ b k (by omega), ← e] at s2
  have h1 := val_lt (ha.take k)
  rw [List.length_take, Nat.min_eq_left (by omega)] at h1
  have := Nat.mul_le_mul_left (65536 ^ k) (show a.getD k 0 + 1 ≤ b.getD k 0 from h)
  rw [Nat.mul_add] at this
  omega
def cmpL (a b : List Nat) : Int := if a.length < b.length then -1 else if b.length < a.length then 1 else if valL a < valL b then -1 else if valL b < valL a then 1 else 0
theorem drop_step {a b : List Nat} {k : Nat} (hk : k < a.length) (hl : a.length = b.length) (e : a.drop (k + 1) = b.drop (k + 1)) (h : a.getD k 0 = b.getD k 0) : a.drop k = b.drop k := by
  rw [drop_getD a k hk, drop_getD b k (by omega), e, h]
theorem cmpL_can {a b : List Nat} (ha : Can a) (hb : Can b) : cmpL a b = if valL a < valL b then -1 else if valL b < valL a then 1 else 0 := by
  unfold cmpL
  by_cases h1 : a.length < b.length
  · rw [if_pos h1, if_pos (ha.lt_len hb h1)]
  · rw [if_neg h1]
    by_cases h2 : b.length < a.length
    · have := hb.lt_len ha h2
      rw [if_pos h2, if_neg (by omega), if_pos this]
    · rw [if_neg h2]
end Go.Proofs.YtogmmhacjndebaaDoor
