/- Plain laws of layer 5: cutting at a byte, names, the text of a fault, which text is one. No program. -/
import Derived.Test.YthaphecoalepgaaDoorPin
import Derived.Lib.SplitLaws
import Derived.Lib.AtoiAllCases
namespace Go.Proofs.YthaphecoalepgaaDoor
open Go.Lib
set_option linter.unusedSimpArgs false
set_option linter.unusedVariables false

theorem idx_miss (c : UInt8) : ∀ l : List UInt8, c ∉ l → index l [c] = -1
  | [], _ => rfl
  | b :: l, h => by
    have hb : (c == b) = false := beq_eq_false_iff_ne.2 (fun e => h (e ▸ List.mem_cons_self))
    have hp : [c].isPrefixOf (b :: l) = false := by simp only [List.isPrefixOf, hb, Bool.false_and]
    rw [index, hp, idx_miss c l (fun e => h (List.mem_cons_of_mem _ e))]; rfl
theorem idx_hit (c : UInt8) (r : List UInt8) : ∀ a : List UInt8, c ∉ a → index (a ++ c :: r) [c] = (a.length : Int)
  | [], _ => by
    have hp : [c].isPrefixOf (c :: r) = true := by simp [List.isPrefixOf]
    rw [List.nil_append, index, hp]; rfl
  | b :: a, h => by
    have hb : (c == b) = false := beq_eq_false_iff_ne.2 (fun e => h (e ▸ List.mem_cons_self))
    have hp : [c].isPrefixOf (b :: (a ++ c :: r)) = false := by simp only [List.isPrefixOf, hb, Bool.false_and]
    rw [List.cons_append, index, hp, idx_hit c r a (fun e => h (List.mem_cons_of_mem _ e))]
    have hn : ((a.length : Int) == -1) = false := beq_eq_false_iff_ne.2 (by omega)
    rw [hn]; simp
theorem first_of {c : UInt8} : ∀ {l : List UInt8}, c ∈ l → ∃ a b, c ∉ a ∧ l = a ++ c :: b
  | x :: l, h => by
    by_cases e : c = x
    · exact ⟨[], l, by simp, by rw [e]; rfl⟩
    · obtain ⟨a, b, h1, h2⟩ := first_of (List.mem_of_ne_of_mem e h)
      exact ⟨x :: a, b, fun hm => (List.mem_cons.1 hm).elim e h1, by rw [h2]; rfl⟩
theorem cut_miss {c : UInt8} {l : List UInt8} (h : c ∉ l) : cut l [c] = (l, [], false) := by
  unfold cut; rw [idx_miss c l h]; rfl
theorem cut_hit {c : UInt8} {a r : List UInt8} (h : c ∉ a) : cut (a ++ c :: r) [c] = (a, r, true) := by
  unfold cut
  rw [idx_hit c r a h, if_pos (by omega)]
  simp
/-- The pieces of a text between the bytes c. -/
def pieces (c : UInt8) : List UInt8 → List (List UInt8)
  | [] => [[]]
  | x :: l => if x = c then [] :: pieces c l else (match pieces c l with | [] => [[x]] | p :: r => (x :: p) :: r)
theorem pieces_ne (c : UInt8) : ∀ l, pieces c l ≠ []
  | [] => by simp [pieces]
  | x :: l => by
    unfold pieces
    split
    · simp
    · split <;> simp
theorem pieces_miss {c : UInt8} : ∀ {l : List UInt8}, c ∉ l → pieces c l = [l]
  | [], _ => rfl
  | x :: l, h => by
    rw [pieces, if_neg (show ¬ x = c from fun e => h (by rw [e]; exact List.mem_cons_self)), pieces_miss (fun e => h (List.mem_cons_of_mem _ e))]
theorem pieces_hit {c : UInt8} {r : List UInt8} : ∀ {a : List UInt8}, c ∉ a → pieces c (a ++ c :: r) = a :: pieces c r
  | [], _ => by rw [List.nil_append, pieces, if_pos rfl]
  | x :: a, h => by
    rw [List.cons_append, pieces, if_neg (show ¬ x = c from fun e => h (by rw [e]; exact List.mem_cons_self)), pieces_hit (fun e => h (List.mem_cons_of_mem _ e))]
theorem pieces_len {c : UInt8} : ∀ l, (pieces c l).length = l.count c + 1
  | [] => rfl
  | x :: l => by
    rw [pieces]
    by_cases e : x = c
    · rw [if_pos e, List.length_cons, pieces_len l, e, List.count_cons_self]
    · rw [if_neg e, List.count_cons_of_ne e]
      have h := pieces_len (c := c) l
      cases hp : pieces c l with
      | nil => rw [hp] at h; simp at h
      | cons p r => rw [hp] at h; exact h
theorem pieces_le (c : UInt8) (l : List UInt8) : ∀ p ∈ pieces c l, p.length ≤ l.length := by
  induction l with
  | nil => intro p hp; simp [pieces] at hp; subst hp; simp
  | cons x l ih =>
    intro p hp
    rw [pieces] at hp
    split at hp
    · rcases List.mem_cons.1 hp with rfl | hp
      · simp
      · have := ih p hp; simp; omega
    · cases hq : pieces c l with
      | nil => exact absurd hq (pieces_ne c l)
      | cons q r =>
        rw [hq] at hp ih
        rcases List.mem_cons.1 hp with rfl | hp
        · have := ih q List.mem_cons_self; simp; omega
        · have := ih p (List.mem_cons_of_mem _ hp); simp; omega
theorem split_pieces (c : UInt8) : ∀ (n : Nat) (l : List UInt8), l.length ≤ n → splitK [c] 0 (count l [c]) l = pieces c l
  | n, l, hn => by
    by_cases hc : c ∈ l
    · obtain ⟨a, b, ha, rfl⟩ := first_of hc
      have hi := idx_hit c b a ha
      have hne : (index (a ++ c :: b) [c] == -1) = false := by rw [hi]; exact beq_eq_false_iff_ne.2 (by omega)
      rw [count_hit (by simp) hi, Nat.add_comm, splitK, hne, hi, pieces_hit ha]
      have e1 : (a ++ c :: b).take ((a.length : Int).toNat + 0) = a := by simp
      have e2 : (a ++ c :: b).drop ((a.length : Int).toNat + [c].length) = b := by simp
      have e3 : (a ++ c :: b).drop (a.length + [c].length) = b := by simp
      rw [e1, e2, e3]
      have hlt : b.length < n := by simp at hn; omega
      match n, hlt with
      | n + 1, hlt => rw [split_pieces c n b (by omega)]; rfl
    · rw [count_miss (idx_miss c l hc), pieces_miss hc]; rfl
theorem count_bytes (c : UInt8) (s : ByteArray) : countB s ⟨#[c]⟩ + 1 = (pieces c s.data.toList).length := by
  rw [pieces_len]
  show count s.data.toList [c] + 1 = _
  rw [count_one]
theorem split_bytes (c : UInt8) (s : ByteArray) : splitB ⟨#[c]⟩ 0 (countB s ⟨#[c]⟩) s = (pieces c s.data.toList).map fun l => (⟨l.toArray⟩ : ByteArray) := by
  have h := splitB_data ⟨#[c]⟩ 0 (countB s ⟨#[c]⟩) s
  have h2 : splitK ([c] : List UInt8) 0 (countB s ⟨#[c]⟩) s.data.toList = pieces c s.data.toList := split_pieces c _ _ (Nat.le_refl _)
  have h3 : (⟨#[c]⟩ : ByteArray).data.toList = [c] := rfl
  rw [h3, h2] at h
  rw [← h, List.map_map]
  conv => lhs; rw [← List.map_id (splitB ⟨#[c]⟩ 0 (countB s ⟨#[c]⟩) s)]
  refine List.map_congr_left (fun x _ => ?_)
  exact ByteArray.ext (by simp)
/-- The names of the errors. -/
def nms : List (List UInt8) := [[79, 75], [69, 65, 82, 71], [69, 83, 72, 79, 82, 84], [69, 70, 79, 82, 77], [69, 84, 69, 88, 84], [69, 75, 73, 78, 68], [69, 76, 69, 78], [69, 77, 79, 82, 69], [69, 68, 69, 69, 80], [69, 83, 73, 90, 69], [69, 78, 85, 77], [69, 87, 82, 65, 80], [69, 77, 65, 80]]
def nmN (k : Nat) : List UInt8 := nms.getD k []
def nmL (e : Int) : List UInt8 := if 0 ≤ e then nmN e.toNat else []
theorem nmN_out {k : Nat} (h : 13 ≤ k) : nmN k = [] := by
  unfold nmN
  rw [List.getD_eq_getElem?_getD, List.getElem?_eq_none (by exact h)]; rfl
theorem nm_facts : ∀ k, k < 13 → nmN k ≠ [] ∧ (64 : UInt8) ∉ nmN k ∧ (nmN k).length ≤ 6 ∧ ∀ j, j < k → nmN j ≠ nmN k := by decide
theorem nmL_nat (k : Nat) : nmL (k : Int) = nmN k := by unfold nmL; rw [if_pos (by omega)]; rfl
theorem nmL_neg {e : Int} (h : e < 0) : nmL e = [] := by unfold nmL; rw [if_neg (by omega)]
theorem nmL_out {e : Int} (h : 13 ≤ e) : nmL e = [] := by unfold nmL; rw [if_pos (by omega), nmN_out (by omega)]
theorem nmL_some {e : Int} (h : nmL e ≠ []) : 0 ≤ e ∧ e < 13 := by
  by_cases h0 : e < 0
  · exact absurd (nmL_neg h0) h
  · by_cases h1 : 13 ≤ e
    · exact absurd (nmL_out h1) h
    · omega
theorem nmL_facts {e : Int} (h : nmL e ≠ []) : (64 : UInt8) ∉ nmL e := by
  obtain ⟨a, b⟩ := nmL_some h
  obtain ⟨k, rfl⟩ : ∃ k : Nat, e = k := ⟨e.toNat, by omega⟩
  rw [nmL_nat]
  exact (nm_facts k (by omega)).2.1
theorem nmL_len (e : Int) : (nmL e).length ≤ 6 := by
  by_cases h : nmL e = []
  · rw [h]; decide
  · obtain ⟨a, b⟩ := nmL_some h
    obtain ⟨k, rfl⟩ : ∃ k : Nat, e = k := ⟨e.toNat, by omega⟩
    rw [nmL_nat]
    exact (nm_facts k (by omega)).2.2.1
/-- The number of a name. -/
def CodeIs (l : List UInt8) (e : Int) (b : Bool) : Prop := (b = true ∧ 0 ≤ e ∧ e < 13 ∧ nmL e = l) ∨ (b = false ∧ e = 0 ∧ ∀ k, k < 13 → nmN k ≠ l)
theorem code_hit {l : List UInt8} {k : Nat} (hk : k < 13) (h : nmN k = l) : CodeIs l k true := Or.inl ⟨rfl, by omega, by omega, by rw [nmL_nat]; exact h⟩
theorem code_miss {l : List UInt8} {k : Nat} (hk : 13 ≤ k) (h : ∀ j, j < k → nmN j ≠ l) : CodeIs l 0 false := Or.inr ⟨rfl, rfl, fun j hj => h j (by omega)⟩
theorem nm_inj {j k : Nat} (hj : j < 13) (hk : k < 13) (h : nmN j = nmN k) : j = k := by
  rcases Nat.lt_trichotomy j k with h1 | h1 | h1
  · exact absurd h ((nm_facts k hk).2.2.2 j h1)
  · exact h1
  · exact absurd h.symm ((nm_facts j hj).2.2.2 k h1)
theorem nmL_inj {e f : Int} (h : nmL e ≠ []) (h2 : nmL e = nmL f) : e = f := by
  obtain ⟨a, b⟩ := nmL_some h
  obtain ⟨c, d⟩ := nmL_some (h2 ▸ h)
  obtain ⟨k, rfl⟩ : ∃ k : Nat, e = k := ⟨e.toNat, by omega⟩
  obtain ⟨j, rfl⟩ : ∃ j : Nat, f = j := ⟨f.toNat, by omega⟩
  rw [nmL_nat, nmL_nat] at h2
  have := nm_inj (by omega) (by omega) h2
  omega
theorem code_uniq {l : List UInt8} {e f : Int} {b d : Bool} (h : CodeIs l e b) (h2 : CodeIs l f d) : e = f ∧ b = d := by
  rcases h with ⟨rfl, a1, a2, a3⟩ | ⟨rfl, rfl, a3⟩ <;> rcases h2 with ⟨rfl, b1, b2, b3⟩ | ⟨rfl, rfl, b3⟩
  · refine ⟨?_, rfl⟩
    have hne : nmL e ≠ [] := by
      obtain ⟨k, rfl⟩ : ∃ k : Nat, e = k := ⟨e.toNat, by omega⟩
      rw [nmL_nat]; exact (nm_facts k (by omega)).1
    exact nmL_inj hne (a3.trans b3.symm)
  · obtain ⟨k, rfl⟩ : ∃ k : Nat, e = k := ⟨e.toNat, by omega⟩
    rw [nmL_nat] at a3
    exact absurd a3 (b3 k (by omega))
  · obtain ⟨k, rfl⟩ : ∃ k : Nat, f = k := ⟨f.toNat, by omega⟩
    rw [nmL_nat] at b3
    exact absurd b3 (a3 k (by omega))
  · exact ⟨rfl, rfl⟩
/-- The digits of the places, a stroke ahead of each. -/
def pthL (p : List Int) : List UInt8 := p.flatMap fun v => 47 :: decDigits v.toNat
/-- The text of a fault. -/
def txtL (e a : Int) (p : List Int) : List UInt8 := if nmL e = [] ∨ a < 0 ∨ ∃ v ∈ p, v < 0 then [] else nmL e ++ 64 :: (decDigits a.toNat ++ pthL p)
/-- A text is this fault's. -/
def Par (l : List UInt8) (e a : Int) (p : List Int) : Prop := nmL e ≠ [] ∧ 0 ≤ a ∧ a ≤ 9223372036854775807 ∧ (∀ v ∈ p, 0 ≤ v ∧ v ≤ 9223372036854775807) ∧ l = nmL e ++ 64 :: (decDigits a.toNat ++ pthL p)
theorem Par.text {l : List UInt8} {e a : Int} {p : List Int} (h : Par l e a p) : txtL e a p = l := by
  obtain ⟨h1, h2, _, h4, h5⟩ := h
  unfold txtL
  rw [if_neg, h5]
  rintro (h | h | ⟨v, hv, h⟩)
  · exact h1 h
  · omega
  · have := (h4 v hv).1; omega
theorem Par.of {l : List UInt8} {e a : Int} {p : List Int} (hl : l ≠ []) (ha : a ≤ 9223372036854775807) (hp : ∀ v ∈ p, v ≤ 9223372036854775807) (h : txtL e a p = l) : Par l e a p := by
  unfold txtL at h
  by_cases hc : nmL e = [] ∨ a < 0 ∨ ∃ v ∈ p, v < 0
  · rw [if_pos hc] at h; exact absurd h.symm hl
  · rw [if_neg hc] at h
    refine ⟨fun h => hc (Or.inl h), ?_, ha, fun v hv => ⟨?_, hp v hv⟩, h.symm⟩
    · rcases Int.lt_or_le a 0 with h | h
      · exact absurd (Or.inr (Or.inl h)) hc
      · exact h
    · rcases Int.lt_or_le v 0 with h | h
      · exact absurd (Or.inr (Or.inr ⟨v, hv, h⟩)) hc
      · exact h
theorem dig_no (n : Nat) (c : UInt8) (h : c.toNat < 48 ∨ 57 < c.toNat) : c ∉ decDigits n := by
  induction n using Nat.strongRecOn with
  | ind n ih =>
    by_cases h10 : n < 10
    · rw [decDigits_one h10, List.mem_singleton]
      intro e
      rw [e, UInt8.toNat_ofNat'] at h
      omega
    · rw [decDigits_ten h10]
      intro hm
      rcases List.mem_append.1 hm with hm | hm
      · exact ih (n / 10) (by omega) hm
      · rw [List.mem_singleton] at hm
        rw [hm, UInt8.toNat_ofNat'] at h
        omega
theorem pieces_path : ∀ (p : List Int) (a : Nat), pieces 47 (decDigits a ++ pthL p) = decDigits a :: p.map fun v => decDigits v.toNat
  | [], a => by
    show pieces 47 (decDigits a ++ []) = _
    rw [List.append_nil, pieces_miss (dig_no a 47 (by decide))]; rfl
  | v :: p, a => by
    have e : decDigits a ++ pthL (v :: p) = decDigits a ++ 47 :: (decDigits v.toNat ++ pthL p) := by simp [pthL]
    rw [e, pieces_hit (dig_no a 47 (by decide)), pieces_path p v.toNat]; rfl
/-- What a fault's text falls into. -/
theorem Par.parts {l : List UInt8} {e a : Int} {p : List Int} (h : Par l e a p) : ∃ r, cut l [64] = (nmL e, r, true) ∧ pieces 47 r = (a :: p).map fun v => decDigits v.toNat := by
  obtain ⟨h1, _, _, _, h5⟩ := h
  exact ⟨_, by rw [h5, cut_hit (nmL_facts h1)], pieces_path p a.toNat⟩
theorem Par.uniq {l : List UInt8} {e a e' a' : Int} {p p' : List Int} (h : Par l e a p) (h' : Par l e' a' p') : e = e' ∧ a = a' ∧ p = p' := by
  obtain ⟨r, h1, h2⟩ := h.parts
  obtain ⟨r', h1', h2'⟩ := h'.parts
  rw [h1, Prod.mk.injEq, Prod.mk.injEq] at h1'
  obtain ⟨e1, rfl, _⟩ := h1'
  rw [h2] at h2'
  have hb := h.2.1
  have hc := h.2.2.2.1
  have hb' := h'.2.1
  have hc' := h'.2.2.2.1
  have inj : ∀ (x y : List Int), (∀ v ∈ x, 0 ≤ v) → (∀ v ∈ y, 0 ≤ v) → (x.map fun v => decDigits v.toNat) = (y.map fun v => decDigits v.toNat) → x = y := by
    intro x
    induction x with
    | nil => intro y _ _ hm; cases y with
      | nil => rfl
      | cons => simp at hm
    | cons u x ih =>
      intro y hx hy hm
      cases y with
      | nil => simp at hm
      | cons v y =>
        simp only [List.map_cons, List.cons.injEq] at hm
        have hu := congrArg (dval 0) hm.1
        rw [dval_dec, dval_dec] at hu
        have := hx u List.mem_cons_self
        have := hy v List.mem_cons_self
        rw [ih y (fun v hv => hx v (List.mem_cons_of_mem _ hv)) (fun v hv => hy v (List.mem_cons_of_mem _ hv)) hm.2, show u = v by omega]
  have := inj (a :: p) (a' :: p') (by
    intro v hv
    rcases List.mem_cons.1 hv with rfl | hv
    · exact hb
    · exact (hc v hv).1) (by
    intro v hv
    rcases List.mem_cons.1 hv with rfl | hv
    · exact hb'
    · exact (hc' v hv).1) h2'
  simp only [List.cons.injEq] at this
  exact ⟨nmL_inj h.1 e1, this.1, this.2⟩
theorem Par.at {l r nm : List UInt8} (hn : (64 : UInt8) ∉ nm) (hl : l = nm ++ 64 :: r) {e a : Int} {p : List Int} (h : Par l e a p) : nm = nmL e ∧ pieces 47 r = (a :: p).map fun v => decDigits v.toNat := by
  obtain ⟨r', h1, h2⟩ := h.parts
  rw [hl, cut_hit hn, Prod.mk.injEq, Prod.mk.injEq] at h1
  obtain ⟨e1, rfl, _⟩ := h1
  exact ⟨e1, h2⟩
theorem no_par_at {l : List UInt8} (h : (64 : UInt8) ∉ l) (e a : Int) (p : List Int) : ¬ Par l e a p := by
  intro hp
  exact h (by rw [hp.2.2.2.2]; simp)
theorem no_par_nm {l r nm : List UInt8} (hn : (64 : UInt8) ∉ nm) (hl : l = nm ++ 64 :: r) (h : ∀ k, k < 13 → nmN k ≠ nm) (e a : Int) (p : List Int) : ¬ Par l e a p := by
  intro hp
  obtain ⟨h1, _⟩ := hp.at hn hl
  obtain ⟨x, y⟩ := nmL_some hp.1
  obtain ⟨k, rfl⟩ : ∃ k : Nat, e = k := ⟨e.toNat, by omega⟩
  rw [nmL_nat] at h1
  exact h k (by omega) h1.symm
theorem Par.all {l r nm : List UInt8} (hn : (64 : UInt8) ∉ nm) (hl : l = nm ++ 64 :: r) {e a : Int} {p : List Int} (h : Par l e a p) : ∀ q ∈ pieces 47 r, ∃ v : Nat, v ≤ 9223372036854775807 ∧ decDigits v = q := by
  intro q hq
  rw [(h.at hn hl).2] at hq
  obtain ⟨v, hv, rfl⟩ := List.mem_map.1 hq
  rcases List.mem_cons.1 hv with rfl | hv
  · exact ⟨_, by have := h.2.2.1; omega, rfl⟩
  · exact ⟨_, by have := (h.2.2.2.1 v hv).2; omega, rfl⟩
/-- Built back from its pieces. -/
theorem join_path : ∀ (p : List Int) (a : Nat) (r : List UInt8), pieces 47 r = decDigits a :: (p.map fun v => decDigits v.toNat) → r = decDigits a ++ pthL p := by
  intro p
  induction p with
  | nil =>
    intro a r h
    by_cases hc : (47 : UInt8) ∈ r
    · obtain ⟨x, y, hx, rfl⟩ := first_of hc
      rw [pieces_hit hx] at h
      simp at h
      exact absurd h.2 (pieces_ne _ _)
    · rw [pieces_miss hc] at h
      simp at h
      simp [pthL, h]
  | cons v p ih =>
    intro a r h
    by_cases hc : (47 : UInt8) ∈ r
    · obtain ⟨x, y, hx, rfl⟩ := first_of hc
      rw [pieces_hit hx, List.map_cons] at h
      simp only [List.cons.injEq] at h
      obtain ⟨rfl, h⟩ := h
      rw [ih v.toNat y h]
      simp [pthL]
    · rw [pieces_miss hc] at h
      simp at h
theorem par_made {l r nm : List UInt8} (hl : l = nm ++ 64 :: r) {e a : Int} {p : List Int} (he : 0 ≤ e) (he2 : e < 13) (hnm : nmL e = nm) (h : pieces 47 r = (a :: p).map fun v => decDigits v.toNat)
    (hb : ∀ v ∈ a :: p, 0 ≤ v ∧ v ≤ 9223372036854775807) : Par l e a p := by
  refine ⟨?_, (hb a List.mem_cons_self).1, (hb a List.mem_cons_self).2, fun v hv => hb v (List.mem_cons_of_mem _ hv), ?_⟩
  · obtain ⟨k, rfl⟩ : ∃ k : Nat, e = k := ⟨e.toNat, by omega⟩
    rw [nmL_nat]; exact (nm_facts k (by omega)).1
  · rw [hl, hnm, join_path p a.toNat r h]
/-- Atoi reads the digits of a number that an int holds. -/
theorem parseUint_dec : ∀ (n : Nat), n ≤ 9223372036854775807 → ∀ (t : List UInt8) (acc : Nat), acc = 0 ∨ acc * 10 ^ (decDigits n).length + n ≤ 9223372036854775807 → parseUint10 acc (decDigits n ++ t) = parseUint10 (acc * 10 ^ (decDigits n).length + n) t := by
  intro n
  induction n using Nat.strongRecOn with
  | ind n ih =>
    intro hn t acc hacc
    have hstep : ∀ (d acc : Nat) (t : List UInt8), d < 10 → acc * 10 + d ≤ 9223372036854775807 → parseUint10 acc (UInt8.ofNat (48 + d) :: t) = parseUint10 (acc * 10 + d) t := by
      intro d acc t hd h
      have e : (UInt8.ofNat (48 + d)).toNat = 48 + d := by rw [UInt8.toNat_ofNat']; omega
      rw [parseUint10, e, if_pos (by omega), if_neg (by omega), if_neg (by omega)]
      congr 1
      omega
    by_cases h10 : n < 10
    · rw [decDigits_one h10]
      have e1 : acc * 10 ^ [UInt8.ofNat (48 + n)].length + n = acc * 10 + n := by simp
      rw [decDigits_one h10, e1] at hacc
      rw [e1]
      exact hstep n acc t h10 (by omega)
    · rw [decDigits_ten h10] at hacc ⊢
      have hlen : (decDigits (n / 10) ++ [UInt8.ofNat (48 + n % 10)]).length = (decDigits (n / 10)).length + 1 := by simp
      rw [hlen] at hacc ⊢
      generalize hL : (decDigits (n / 10)).length = L at *
      have hpow : acc * 10 ^ (L + 1) = acc * 10 ^ L * 10 := by rw [Nat.pow_succ, Nat.mul_assoc]
      rw [hpow] at hacc ⊢
      rw [List.append_assoc, ih (n / 10) (by omega) (by omega) _ acc (by rw [hL]; omega), hL, List.singleton_append, hstep _ _ _ (by omega) (by rcases hacc with rfl | h <;> omega)]
      congr 1
      omega
theorem atoi_dec (n : Nat) (hn : n ≤ 9223372036854775807) : atoiAll (decDigits n) = .ok (n : Int) := by
  have hu := parseUint_dec n hn [] 0 (Or.inl rfl)
  rw [List.append_nil, Nat.zero_mul, Nat.zero_add] at hu
  have hd := dig_no n
  cases hdd : decDigits n with
  | nil => exact absurd hdd (decDigits_nil n)
  | cons c r =>
    rw [hdd] at hu hd
    have h43 : c.toNat ≠ 43 := fun h => hd c (Or.inl (by omega)) List.mem_cons_self
    have h45 : c.toNat ≠ 45 := fun h => hd c (Or.inl (by omega)) List.mem_cons_self
    rw [atoiAll_plain c r h43 h45]
    have hm : parseMag (c :: r) = .ok n := by
      unfold parseMag
      rw [if_neg (by simp), hu]; rfl
    rw [hm]
    unfold signless
    simp only
    rw [if_neg (by omega)]
end Go.Proofs.YthaphecoalepgaaDoor
