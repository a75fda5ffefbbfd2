/- The plain law of the reference's reading of a number, beside decit.number's. No program. -/
import Derived.Test.YtiagngnpbpblaaaDoorQ7
import Derived.Test.YtiagngnpbpblaaaDoorLex2
namespace Go.Proofs.YtiagngnpbpblaaaDoor
open Go.Lib
set_option linter.unusedSimpArgs false
set_option linter.unusedVariables false

def litB (r : List UInt8) : List UInt8 := if hdIs r 46 46 then r.tail.take (runL r.tail) else []
def litR (r : List UInt8) : List UInt8 := if hdIs r 46 46 then r.tail.drop (runL r.tail) else r
def litCore (t : List UInt8) : List UInt8 := t.take (runL t) ++ litB (t.drop (runL t))
def litBeh (t : List UInt8) : Nat := (litB (t.drop (runL t))).length
def litT (t : List UInt8) : List UInt8 := litR (t.drop (runL t))
def expS (p : List UInt8) : Int := min (decVal p : Int) 100000
def litE (r : List UInt8) : Int := if hdIs r 101 69 then (if hdIs r.tail 45 45 then -expS ((stripS r.tail).take (runL (stripS r.tail))) else expS ((stripS r.tail).take (runL (stripS r.tail)))) else 0
def litOkE (r : List UInt8) : Bool := if hdIs r 101 69 then decide (runL (stripS r.tail) ≠ 0) && ((stripS r.tail).drop (runL (stripS r.tail))).isEmpty else r.isEmpty
def litOk (t : List UInt8) : Bool := !(litCore t).isEmpty && litOkE (litT t)
/-- The same exponent, or both so far out that no decimal has it. -/
def ExpRel (a b : Int) : Prop := a = b ∨ (100000 ≤ a ∧ 100000 ≤ b) ∨ (a ≤ -100000 ∧ b ≤ -100000)

theorem idx_cons17 {c : UInt8} (h : ([101, 69] : List UInt8).contains c = false) (t : List UInt8) : indexAny (c :: t) [101, 69] = if indexAny t [101, 69] == -1 then -1 else indexAny t [101, 69] + 1 := by
  rw [indexAny, h]; rfl
theorem mant_cons17 {c : UInt8} (h : ([101, 69] : List UInt8).contains c = false) (t : List UInt8) : mantL (c :: t) = c :: mantL t ∧ expOk (c :: t) = expOk t ∧ expV (c :: t) = expV t := by
  have hg := indexAny_ge [101, 69] t
  have hi := idx_cons17 h t
  by_cases h1 : indexAny t [101, 69] = -1
  · rw [h1] at hi
    have hi2 : indexAny (c :: t) [101, 69] = -1 := hi
    refine ⟨?_, ?_, ?_⟩
    · unfold mantL; rw [hi2, h1]; rfl
    · unfold expOk; rw [hi2, h1]; rfl
    · unfold expV; rw [hi2, h1]; rfl
  · obtain ⟨i, hk⟩ : ∃ i : Nat, indexAny t [101, 69] = i := ⟨(indexAny t [101, 69]).toNat, by omega⟩
    have hb : ((i : Int) == -1) = false := beq_eq_false_iff_ne.2 (by omega)
    rw [hk, hb] at hi
    have hi2 : indexAny (c :: t) [101, 69] = ((i + 1 : Nat) : Int) := by rw [hi]; rfl
    have hp : powL (c :: t) = powL t := by
      unfold powL; rw [hi2, hk, Int.toNat_natCast, Int.toNat_natCast]; rfl
    have p1 : (0 : Int) ≤ ((i + 1 : Nat) : Int) := by omega
    have p2 : (0 : Int) ≤ (i : Int) := by omega
    refine ⟨?_, ?_, ?_⟩
    · unfold mantL
      rw [hi2, hk, if_pos p1, if_pos p2, Int.toNat_natCast, Int.toNat_natCast]; rfl
    · unfold expOk; rw [hi2, hk, hp, if_pos p1, if_pos p2]
    · unfold expV; rw [hi2, hk, hp, if_pos p1, if_pos p2]
theorem mant_app : ∀ (m t : List UInt8), NoE m → mantL (m ++ t) = m ++ mantL t ∧ expOk (m ++ t) = expOk t ∧ expV (m ++ t) = expV t
  | [], _, _ => ⟨rfl, rfl, rfl⟩
  | c :: m, t, h => by
    obtain ⟨i1, i2, i3⟩ := mant_app m t (fun x hx => h x (List.mem_cons_of_mem _ hx))
    obtain ⟨j1, j2, j3⟩ := mant_cons17 (h c List.mem_cons_self) (m ++ t)
    exact ⟨by rw [List.cons_append, j1, i1]; rfl, by rw [List.cons_append, j2, i2], by rw [List.cons_append, j3, i3]⟩
theorem mant_x {x : UInt8} (hx : ([101, 69] : List UInt8).contains x = true) (p : List UInt8) : mantL (x :: p) = [] ∧ expOk (x :: p) = (!(stripS p).isEmpty && (stripS p).all isD) ∧ expV (x :: p) = if hdIs p 45 45 then -expM (stripS p) else expM (stripS p) := by
  have e : indexAny (x :: p) [101, 69] = 0 := by rw [indexAny, hx]; rfl
  have hp : powL (x :: p) = p := by unfold powL; rw [e]; rfl
  refine ⟨?_, ?_, ?_⟩
  · unfold mantL; rw [e, if_pos (by decide)]; rfl
  · unfold expOk; rw [e, if_pos (by decide), hp]
  · unfold expV; rw [e, if_pos (by decide), hp]
theorem first46b : ∀ m : List UInt8, (46 : UInt8) ∉ m ∨ ∃ a b, m = a ++ 46 :: b ∧ (46 : UInt8) ∉ a
  | [] => Or.inl (by simp)
  | c :: m => by
    by_cases hc : c = 46
    · subst hc; exact Or.inr ⟨[], m, rfl, by simp⟩
    · rcases first46b m with h | ⟨a, b, e, h⟩
      · exact Or.inl (fun hm => by
          rcases List.mem_cons.1 hm with h1 | h1
          · exact hc h1.symm
          · exact h h1)
      · exact Or.inr ⟨c :: a, b, by rw [e]; rfl, fun hm => by
          rcases List.mem_cons.1 hm with h1 | h1
          · exact hc h1.symm
          · exact h h1⟩
theorem cut_miss17 {m : List UInt8} (h : (46 : UInt8) ∉ m) : digL m = m ∧ behL m = 0 := by
  have e : cut m [46] = (m, [], false) := by unfold cut; rw [idx46_miss m h]; rfl
  unfold digL behL
  rw [e]
  exact ⟨List.append_nil _, rfl⟩
theorem cut_hit17 {a b : List UInt8} (h : (46 : UInt8) ∉ a) : digL (a ++ 46 :: b) = a ++ b ∧ behL (a ++ 46 :: b) = b.length := by
  have e : cut (a ++ 46 :: b) [46] = (a, b, true) := by
    unfold cut
    rw [idx46_hit b a h, if_pos (by omega)]
    simp
  unfold digL behL
  rw [e]
  exact ⟨rfl, rfl⟩
theorem dig_app {a : List UInt8} (h : (46 : UInt8) ∉ a) (m : List UInt8) : digL (a ++ m) = a ++ digL m ∧ behL (a ++ m) = behL m := by
  rcases first46b m with hm | ⟨u, b, rfl, hm⟩
  · have h2 : (46 : UInt8) ∉ a ++ m := fun hx => (List.mem_append.1 hx).elim h hm
    obtain ⟨e1, e2⟩ := cut_miss17 hm
    obtain ⟨e3, e4⟩ := cut_miss17 h2
    exact ⟨by rw [e3, e1], by rw [e4, e2]⟩
  · have h2 : (46 : UInt8) ∉ a ++ u := fun hx => (List.mem_append.1 hx).elim h hm
    obtain ⟨e1, e2⟩ := cut_hit17 (b := b) hm
    obtain ⟨e3, e4⟩ := cut_hit17 (b := b) h2
    rw [← List.append_assoc]
    exact ⟨by rw [e3, e1, List.append_assoc], by rw [e4, e2]⟩
theorem all_run {r : List UInt8} (h : runL r = 0) : r.all isD = r.isEmpty := by
  match r, h with
  | [], _ => rfl
  | x :: m, h =>
    cases hx : isD x
    · rw [List.all_cons, hx]; rfl
    · exfalso
      have : (if isD x then runL m + 1 else 0) = 0 := h
      rw [hx] at this
      simp at this
theorem exp_rel (v : Nat) : ExpRel (min (v : Int) 1000000) (min (v : Int) 100000) ∧ ExpRel (-(min (v : Int) 1000000)) (-(min (v : Int) 100000)) := by
  unfold ExpRel
  constructor <;> omega
theorem contains_hd (x : UInt8) (p : List UInt8) : hdIs (x :: p) 101 69 = ([101, 69] : List UInt8).contains x := by
  show ((x.toNat : Int) == 101 || (x.toNat : Int) == 69) = _
  have e1 : ((x.toNat : Int) == 101) = (x == 101) := by
    by_cases h : x = 101
    · subst h; rfl
    · rw [beq_eq_false_iff_ne.2 h]
      exact beq_eq_false_iff_ne.2 (fun h2 => h (UInt8.toNat_inj.1 (by show x.toNat = 101; omega)))
  have e2 : ((x.toNat : Int) == 69) = (x == 69) := by
    by_cases h : x = 69
    · subst h; rfl
    · rw [beq_eq_false_iff_ne.2 h]
      exact beq_eq_false_iff_ne.2 (fun h2 => h (UInt8.toNat_inj.1 (by show x.toNat = 69; omega)))
  rw [e1, e2]
  show _ = List.elem x [101, 69]
  unfold List.elem List.elem List.elem
  cases (x == 101) <;> cases (x == 69) <;> rfl
theorem tail15 {r : List UInt8} (h : runL r = 0) : (mantL r = [] ∧ expOk r = litOkE r ∧ (litOkE r = true → ExpRel (expV r) (litE r))) ∨ (∃ y q, r = y :: q ∧ isD y = false ∧ mantL r = y :: mantL q ∧ litOkE r = false) := by
  match r, h with
  | [], _ => exact Or.inl ⟨rfl, rfl, fun _ => Or.inl rfl⟩
  | x :: p, h =>
    have hxd : isD x = false := by
      have := all_run h
      cases hx : isD x
      · rfl
      · exfalso
        have h2 : (if isD x then runL p + 1 else 0) = 0 := h
        rw [hx] at h2
        simp at h2
    cases hc : ([101, 69] : List UInt8).contains x
    · refine Or.inr ⟨x, p, rfl, hxd, (mant_cons17 hc p).1, ?_⟩
      unfold litOkE
      rw [contains_hd, hc]; rfl
    · obtain ⟨m1, m2, m3⟩ := mant_x hc p
      obtain ⟨d, r3, e, hd, hr3, hl, hdr⟩ := run_split (stripS p)
      have htk : (stripS p).take (runL (stripS p)) = d := by rw [hl, e, List.take_left]
      refine Or.inl ⟨m1, ?_, fun hok => ?_⟩
      · rw [m2]
        unfold litOkE
        rw [contains_hd, hc, if_pos rfl]
        show _ = (decide (runL (stripS p) ≠ 0) && ((stripS p).drop (runL (stripS p))).isEmpty)
        rw [hdr, hl, e, List.all_append, hd, Bool.true_and, all_run hr3]
        cases d with
        | nil => cases r3 <;> simp
        | cons => cases r3 <;> simp
      · unfold litOkE at hok
        rw [contains_hd, hc, if_pos rfl] at hok
        have hok2 : (decide (runL (stripS p) ≠ 0) && ((stripS p).drop (runL (stripS p))).isEmpty) = true := hok
        rw [hdr, Bool.and_eq_true] at hok2
        have hr30 : r3 = [] := by simpa using hok2.2
        subst hr30
        rw [List.append_nil] at e
        rw [m3]
        unfold litE
        rw [contains_hd, hc, if_pos rfl]
        show ExpRel _ (if hdIs p 45 45 then -expS ((stripS p).take (runL (stripS p))) else expS ((stripS p).take (runL (stripS p))))
        rw [htk, e]
        unfold expM expS
        cases hdIs p 45 45
        · exact (exp_rel _).1
        · exact (exp_rel _).2
theorem lit_num (t : List UInt8) : (expOk t && digOk (mantL t)) = litOk t ∧ (litOk t = true → digL (mantL t) = litCore t ∧ behL (mantL t) = litBeh t ∧ ExpRel (expV t) (litE (litT t)) ∧ (litCore t).all isD = true ∧ litCore t ≠ []) := by
  obtain ⟨a, r, e, ha, hr, hl, hdr⟩ := run_split t
  have hta : t.take (runL t) = a := by rw [hl, e, List.take_left]
  have hno : (46 : UInt8) ∉ a := dig_no46 ha
  have hC : litCore t = a ++ litB r := by unfold litCore; rw [hta, hdr]
  have hB : litBeh t = (litB r).length := by unfold litBeh; rw [hdr]
  have hT : litT t = litR r := by unfold litT; rw [hdr]
  have hO : litOk t = (!(a ++ litB r).isEmpty && litOkE (litR r)) := by unfold litOk; rw [hC, hT]
  rw [hO, hC, hB, hT]
  clear hO hC hB hT hta hdr hl
  cases hp : hdIs r 46 46
  · have b1 : litB r = [] := by unfold litB; rw [hp]; rfl
    have b2 : litR r = r := by unfold litR; rw [hp]; rfl
    rw [b1, b2, List.append_nil]
    obtain ⟨m1, m2, m3⟩ := mant_app a r (noE_dig ha)
    rcases tail15 hr with ⟨q1, q2, q3⟩ | ⟨y, q, rfl, q1, q2, q3⟩
    · rw [q1, List.append_nil] at m1
      obtain ⟨d1, d2⟩ := cut_miss17 hno
      rw [e, m1, m2, m3, q2]
      unfold digOk
      rw [d1, ha, Bool.and_true, d2]
      refine ⟨Bool.and_comm _ _, fun h => ?_⟩
      rw [Bool.and_eq_true] at h
      exact ⟨rfl, rfl, q3 h.2, by first | rfl | exact ha, fun h0 => by rw [h0] at h; exact absurd h.1 (by decide)⟩
    · have hy : (46 : UInt8) ∉ a ++ [y] := fun hx => by
        rcases List.mem_append.1 hx with h1 | h1
        · exact hno h1
        · have h46 : (46 : UInt8) = y := List.mem_singleton.1 h1
          subst h46
          have h2 : ((((46 : UInt8).toNat : Int)) == 46 || (((46 : UInt8).toNat : Int)) == 46) = false := hp
          exact absurd h2 (by decide)
      have hm : mantL t = (a ++ [y]) ++ mantL q := by rw [e, m1, q2, List.append_assoc]; rfl
      have hd : digOk (mantL t) = false := by
        unfold digOk
        rw [hm, (dig_app hy _).1, List.all_append, List.all_append, List.all_cons, q1]
        simp
      rw [hd, q3, Bool.and_false, Bool.and_false]
      exact ⟨rfl, fun h => by cases h⟩
  · obtain ⟨u, rfl⟩ : ∃ u, r = 46 :: u := by
      match r, hp with
      | x :: u, hp =>
        refine ⟨u, ?_⟩
        have h1 : ((x.toNat : Int) == 46 || (x.toNat : Int) == 46) = true := hp
        rw [Bool.or_self, beq_iff_eq] at h1
        have : x = 46 := UInt8.toNat_inj.1 (by show x.toNat = 46; omega)
        rw [this]
    obtain ⟨b, r2, eu, hb, hr2, hl2, hd2⟩ := run_split u
    have b1 : litB (46 :: u) = b := by
      unfold litB; rw [hp, if_pos rfl]
      show u.take (runL u) = b
      rw [hl2, eu, List.take_left]
    have b2 : litR (46 :: u) = r2 := by
      unfold litR; rw [hp, if_pos rfl]; exact hd2
    rw [b1, b2]
    have hM : NoE (a ++ 46 :: b) := noE_app (noE_dig ha) (noE_app (l := [46]) noE_pt (noE_dig hb))
    have hab : (a ++ b).all isD = true := by rw [List.all_append, ha, hb]; rfl
    have et : t = (a ++ 46 :: b) ++ r2 := by rw [e, eu]; simp
    obtain ⟨m1, m2, m3⟩ := mant_app (a ++ 46 :: b) r2 hM
    rcases tail15 hr2 with ⟨q1, q2, q3⟩ | ⟨y, q, rfl, q1, q2, q3⟩
    · rw [q1, List.append_nil] at m1
      obtain ⟨d1, d2⟩ := cut_hit17 (b := b) hno
      rw [et, m1, m2, m3, q2]
      unfold digOk
      rw [d1, hab, Bool.and_true, d2]
      refine ⟨Bool.and_comm _ _, fun h => ?_⟩
      rw [Bool.and_eq_true] at h
      exact ⟨rfl, rfl, q3 h.2, by first | rfl | exact hab, fun h0 => by rw [h0] at h; exact absurd h.1 (by decide)⟩
    · have hm : mantL t = a ++ 46 :: (b ++ y :: mantL q) := by rw [et, m1, q2, List.append_assoc]; rfl
      have hd : digOk (mantL t) = false := by
        unfold digOk
        rw [hm, (cut_hit17 hno).1, List.all_append, List.all_append, List.all_cons, q1]
        simp
      rw [hd, q3, Bool.and_false, Bool.and_false]
      exact ⟨rfl, fun h => by cases h⟩
end Go.Proofs.YtiagngnpbpblaaaDoor
