/- What the text of a decimal is read as: plain laws. No program. -/
import Derived.Test.YtpgooajifehbbaaDoorQ3
import Derived.Test.YtpgooajifehbbaaDoorQ5
import Derived.Test.YtpgooajifehbbaaDoorQx
namespace Go.Proofs.YtpgooajifehbbaaDoor
open Go.Lib
set_option linter.unusedSimpArgs false
set_option linter.unusedVariables false

theorem isD_dg (l : List UInt8) : l.all isD = l.all isDg := rfl
theorem dig_ne {c : UInt8} (h : isD c = true) : 48 ≤ c.toNat ∧ c.toNat ≤ 57 := by
  unfold isD at h
  rw [Bool.and_eq_true, decide_eq_true_eq, decide_eq_true_eq] at h
  exact h
theorem idx_none (cs : List UInt8) : ∀ l : List UInt8, (∀ c ∈ l, cs.contains c = false) → indexAny l cs = -1
  | [], _ => rfl
  | b :: l, h => by
    rw [indexAny, h b List.mem_cons_self, idx_none cs l (fun c hc => h c (List.mem_cons_of_mem _ hc))]; rfl
theorem idx_some (cs : List UInt8) (x : UInt8) (r : List UInt8) (hx : cs.contains x = true) : ∀ l : List UInt8, (∀ c ∈ l, cs.contains c = false) → indexAny (l ++ x :: r) cs = (l.length : Int)
  | [], _ => by rw [List.nil_append, indexAny, hx]; rfl
  | b :: l, h => by
    rw [List.cons_append, indexAny, h b List.mem_cons_self, idx_some cs x r hx l (fun c hc => h c (List.mem_cons_of_mem _ hc))]
    have hn : ((l.length : Int) == -1) = false := beq_eq_false_iff_ne.2 (by omega)
    rw [hn]
    simp
/-- Nothing of a text's head is an exponent's letter. -/
def NoE (l : List UInt8) : Prop := ∀ c ∈ l, ([101, 69] : List UInt8).contains c = false
theorem noE_dig {l : List UInt8} (h : l.all isD = true) : NoE l := fun c hc => by
  obtain ⟨h1, h2⟩ := dig_ne (List.all_eq_true.1 h c hc)
  cases hq : ([101, 69] : List UInt8).contains c with
  | false => rfl
  | true =>
    simp at hq
    rcases hq with rfl | rfl
    · simp at h2
    · simp at h2
theorem noE_app {l m : List UInt8} (h : NoE l) (h2 : NoE m) : NoE (l ++ m) := fun c hc => (List.mem_append.1 hc).elim (h c) (h2 c)
theorem noE_pt : NoE [46] := fun c hc => by rw [List.mem_singleton.1 hc]; decide
theorem plain_mant {t : List UInt8} (h : NoE t) : mantL t = t ∧ expOk t = true ∧ expV t = 0 := by
  have e := idx_none [101, 69] t h
  refine ⟨?_, ?_, ?_⟩
  · unfold mantL; rw [e, if_neg (by decide)]
  · unfold expOk; rw [e, if_neg (by decide)]
  · unfold expV; rw [e, if_neg (by decide)]
theorem exp_mant {m ds : List UInt8} {x s : UInt8} (h : NoE m) (hx : ([101, 69] : List UInt8).contains x = true) (hs : s = 43 ∨ s = 45) (hd : ds.all isD = true) (hn : ds ≠ []) (hv : decVal ds ≤ 1000000) :
    mantL (m ++ x :: s :: ds) = m ∧ expOk (m ++ x :: s :: ds) = true ∧ expV (m ++ x :: s :: ds) = if s = 45 then -(decVal ds : Int) else (decVal ds : Int) := by
  have e := idx_some [101, 69] x (s :: ds) hx m h
  have hp : powL (m ++ x :: s :: ds) = s :: ds := by
    unfold powL
    rw [e, Int.toNat_natCast, List.drop_append]
    simp
  have hst : stripS (s :: ds) = ds := by
    unfold stripS
    rcases hs with rfl | rfl <;> rfl
  have hne : ds.isEmpty = false := by cases ds with
    | nil => exact absurd rfl hn
    | cons => rfl
  have hM : expM ds = (decVal ds : Int) := by unfold expM; omega
  refine ⟨?_, ?_, ?_⟩
  · unfold mantL; rw [e, if_pos (by omega), Int.toNat_natCast]; simp
  · unfold expOk; rw [e, if_pos (by omega), hp, hst, hne, hd]; rfl
  · unfold expV; rw [e, if_pos (by omega), hp, hst, hM]
    rcases hs with rfl | rfl <;> rfl
/-- An exponent without a sign. -/
theorem exp_mant0 {m ds : List UInt8} {x : UInt8} (h : NoE m) (hx : ([101, 69] : List UInt8).contains x = true) (hd : ds.all isD = true) (hn : ds ≠ []) (hv : decVal ds ≤ 1000000) :
    mantL (m ++ x :: ds) = m ∧ expOk (m ++ x :: ds) = true ∧ expV (m ++ x :: ds) = (decVal ds : Int) := by
  have e := idx_some [101, 69] x ds hx m h
  have hp : powL (m ++ x :: ds) = ds := by
    unfold powL
    rw [e, Int.toNat_natCast, List.drop_append]
    simp
  obtain ⟨c, r, rfl⟩ : ∃ c r, ds = c :: r := by
    cases ds with
    | nil => exact absurd rfl hn
    | cons c r => exact ⟨c, r, rfl⟩
  have hc := dig_ne (List.all_eq_true.1 hd c List.mem_cons_self)
  have h1 : hdIs (c :: r) 43 45 = false := by
    show ((c.toNat : Int) == 43 || (c.toNat : Int) == 45) = false
    rw [beq_eq_false_iff_ne.2 (by omega), beq_eq_false_iff_ne.2 (by omega)]; rfl
  have h2 : hdIs (c :: r) 45 45 = false := by
    show ((c.toNat : Int) == 45 || (c.toNat : Int) == 45) = false
    rw [beq_eq_false_iff_ne.2 (by omega)]; rfl
  have hst : stripS (c :: r) = c :: r := by unfold stripS; rw [h1]; rfl
  have hM : expM (c :: r) = (decVal (c :: r) : Int) := by unfold expM; omega
  refine ⟨?_, ?_, ?_⟩
  · unfold mantL; rw [e, if_pos (by omega), Int.toNat_natCast]; simp
  · unfold expOk; rw [e, if_pos (by omega), hp, hst, hd]; rfl
  · unfold expV; rw [e, if_pos (by omega), hp, hst, h2, hM]; rfl
theorem idx46_miss : ∀ l : List UInt8, (46 : UInt8) ∉ l → index l [46] = -1
  | [], _ => rfl
  | b :: l, h => by
    have hb : ((46 : UInt8) == b) = false := beq_eq_false_iff_ne.2 (fun e => h (e ▸ List.mem_cons_self))
    have hp : [(46 : UInt8)].isPrefixOf (b :: l) = false := by simp only [List.isPrefixOf, hb, Bool.false_and]
    rw [index, hp, idx46_miss l (fun e => h (List.mem_cons_of_mem _ e))]; rfl
theorem idx46_hit (r : List UInt8) : ∀ a : List UInt8, (46 : UInt8) ∉ a → index (a ++ 46 :: r) [46] = (a.length : Int)
  | [], _ => by
    have hp : [(46 : UInt8)].isPrefixOf (46 :: r) = true := by simp [List.isPrefixOf]
    rw [List.nil_append, index, hp]; rfl
  | b :: a, h => by
    have hb : ((46 : UInt8) == b) = false := beq_eq_false_iff_ne.2 (fun e => h (e ▸ List.mem_cons_self))
    have hp : [(46 : UInt8)].isPrefixOf (b :: (a ++ 46 :: r)) = false := by simp only [List.isPrefixOf, hb, Bool.false_and]
    rw [List.cons_append, index, hp, idx46_hit r a (fun e => h (List.mem_cons_of_mem _ e))]
    have hn : ((a.length : Int) == -1) = false := beq_eq_false_iff_ne.2 (by omega)
    rw [hn]; simp
theorem dig_no46 {l : List UInt8} (h : l.all isD = true) : (46 : UInt8) ∉ l := fun hm => by
  have := dig_ne (List.all_eq_true.1 h _ hm)
  simp at this
theorem digs_one {m : List UInt8} (h : m.all isD = true) : digL m = m ∧ behL m = 0 := by
  have e : cut m [46] = (m, [], false) := by unfold cut; rw [idx46_miss m (dig_no46 h)]; rfl
  unfold digL behL
  rw [e]
  exact ⟨List.append_nil _, rfl⟩
theorem digs_two {a b : List UInt8} (h : a.all isD = true) : digL (a ++ 46 :: b) = a ++ b ∧ behL (a ++ 46 :: b) = b.length := by
  have e : cut (a ++ 46 :: b) [46] = (a, b, true) := by
    unfold cut
    rw [idx46_hit b a (dig_no46 h), if_pos (by omega)]
    simp
  unfold digL behL
  rw [e]
  exact ⟨rfl, rfl⟩
/-- A text that is a number: what it tells. -/
theorem num_of {sg t m D : List UInt8} {E : Int} {b : Nat} (hst : stripS (sg ++ t) = t) (hm : mantL t = m) (ho : expOk t = true) (he : expV t = E) (hd : digL m = D) (hb : behL m = b) (hD : D.all isD = true) (hn : D ≠ []) :
    numOk (sg ++ t) = true ∧ qOf (sg ++ t) = E - b ∧ dOf (sg ++ t) = trimLeftB D 48 := by
  have hne : D.isEmpty = false := by cases D with
    | nil => exact absurd rfl hn
    | cons => rfl
  refine ⟨?_, ?_, ?_⟩
  · unfold numOk digOk; rw [hst, ho, hm, hd, hne, hD]; rfl
  · unfold qOf; rw [hst, he, hm, hb]
  · unfold dOf; rw [hst, hm, hd]
end Go.Proofs.YtpgooajifehbbaaDoor
