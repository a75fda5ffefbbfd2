/- Plain laws of JSON's numbers as texts: what follows a number's text. No program. -/
import Derived.Test.YtpgooajifehbbaaDoorLex
import Derived.Test.YtpgooajifehbbaaDoorNum
namespace Go.Proofs.YtpgooajifehbbaaDoor
open Go.Lib
set_option linter.unusedSimpArgs false
set_option linter.unusedVariables false

theorem hdIs_cons (x : UInt8) (l : List UInt8) (c d : Int) : hdIs (x :: l) c d = ((x.toNat : Int) == c || (x.toNat : Int) == d) := rfl
theorem isD_not {x : UInt8} {c d : Int} (hc : c < 48 ∨ 57 < c) (hd : d < 48 ∨ 57 < d) (h : isD x = true) (l : List UInt8) : hdIs (x :: l) c d = false := by
  unfold isD at h
  simp only [Bool.and_eq_true, decide_eq_true_eq] at h
  rw [hdIs_cons, Bool.or_eq_false_iff]
  exact ⟨beq_eq_false_iff_ne.2 (by omega), beq_eq_false_iff_ne.2 (by omega)⟩
theorem hd_not_isD {l : List UInt8} {c d : Int} (hc : c < 48 ∨ 57 < c) (hd : d < 48 ∨ 57 < d) (h : hdIs l c d = true) : ∃ x m, l = x :: m ∧ isD x = false := by
  match l, h with
  | x :: m, h =>
    refine ⟨x, m, rfl, ?_⟩
    rw [Bool.eq_false_iff]
    intro hx
    rw [isD_not hc hd hx m] at h
    cases h
theorem runL_of_not {x : UInt8} {m : List UInt8} (h : isD x = false) : runL (x :: m) = 0 := by
  show (if isD x then runL m + 1 else 0) = 0
  rw [h]; rfl
/-- A text is its run of digits and a rest that begins with none. -/
theorem run_split : ∀ l : List UInt8, ∃ m r, l = m ++ r ∧ m.all isD = true ∧ runL r = 0 ∧ runL l = m.length ∧ l.drop (runL l) = r
  | [] => ⟨[], [], rfl, rfl, rfl, rfl, rfl⟩
  | x :: l => by
    by_cases hx : isD x = true
    · obtain ⟨m, r, e, ha, hr, hl, hd⟩ := run_split l
      refine ⟨x :: m, r, by rw [e]; rfl, by rw [List.all_cons, hx, ha]; rfl, hr, ?_, ?_⟩
      · show (if isD x then runL l + 1 else 0) = _
        rw [if_pos hx, hl]; rfl
      · show (x :: l).drop (if isD x then runL l + 1 else 0) = r
        rw [if_pos hx, List.drop_succ_cons, hd]
    · have hx' : isD x = false := by simpa using hx
      exact ⟨[], x :: l, rfl, rfl, runL_of_not hx', runL_of_not hx', by rw [runL_of_not hx']; rfl⟩
theorem lexDig_run {m r : List UInt8} (kind : Int) (k : List UInt8 → Int) (hm : m.all isD = true) (h0 : m ≠ []) (hr : runL r = 0) : lexDig kind (m ++ r) k = k r := by
  unfold lexDig
  have e : runL (m ++ r) = m.length := by rw [runL_append m r hm, hr]; rfl
  rw [e, if_neg (fun h => h0 (List.eq_nil_of_length_eq_zero h)), List.drop_left]
theorem lexDig_app {m t : List UInt8} (kind : Int) (k : List UInt8 → Int) (hm : m.all isD = true) (h0 : m ≠ []) : lexDig kind (m ++ t) k = k (t.drop (runL t)) := by
  obtain ⟨m2, r, e, ha, hr, hl, hd⟩ := run_split t
  rw [hd, e, ← List.append_assoc]
  exact lexDig_run kind k (by rw [List.all_append, hm, ha]; rfl) (fun h => h0 (List.append_eq_nil_iff.1 h).1) hr
theorem lexInt_run {m r : List UInt8} (hm : m.all isD = true) (h0 : m ≠ []) (hz : m.length = 1 ∨ hdIs m 48 48 = false) (hr : runL r = 0) : lexInt (m ++ r) = lexFrac r := by
  unfold lexInt
  have e : runL (m ++ r) = m.length := by rw [runL_append m r hm, hr]; rfl
  have h1 : hdIs (m ++ r) 48 48 = hdIs m 48 48 := by
    match m, h0 with
    | x :: m, _ => rfl
  rw [e, h1, List.drop_left, if_neg]
  rintro (h | ⟨h2, h3⟩)
  · exact h0 (List.eq_nil_of_length_eq_zero h)
  · rcases hz with hz | hz
    · omega
    · rw [hz] at h2; cases h2
theorem lexEnd_two (l : List UInt8) : lexEnd 2 l = 0 ∨ lexEnd 2 l = 2 := by unfold lexEnd; split <;> simp
theorem lexDig_two {k : List UInt8 → Int} (l : List UInt8) (hk : ∀ l, k l = 0 ∨ k l = 2) : lexDig 2 l k = 0 ∨ lexDig 2 l k = 2 := by
  unfold lexDig; split
  · exact Or.inl rfl
  · exact hk _
theorem lexExp_two (l : List UInt8) : lexExp 2 l = 0 ∨ lexExp 2 l = 2 := by
  unfold lexExp; split
  · split <;> exact lexDig_two _ lexEnd_two
  · exact lexEnd_two l
/-- A whole number's text: a sign perhaps, digits without noughts ahead. -/
theorem lexFrac_one {r : List UInt8} (h : lexFrac r = 1) : r = [] := by
  unfold lexFrac at h
  split at h
  · rcases lexDig_two r.tail lexExp_two with e | e <;> rw [e] at h <;> cases h
  · unfold lexExp at h
    split at h
    · split at h
      · rcases lexDig_two r.tail.tail lexEnd_two with e | e <;> rw [e] at h <;> cases h
      · rcases lexDig_two r.tail lexEnd_two with e | e <;> rw [e] at h <;> cases h
    · unfold lexEnd at h
      split at h
      · assumption
      · cases h
theorem lexInt_parts {l : List UInt8} (h : lexInt l ≠ 0) : ∃ m r, l = m ++ r ∧ m.all isD = true ∧ m ≠ [] ∧ (m.length = 1 ∨ hdIs m 48 48 = false) ∧ runL r = 0 ∧ lexInt l = lexFrac r := by
  obtain ⟨m, r, e, ha, hr, hl, hd⟩ := run_split l
  have h0 : m ≠ [] := by
    rintro rfl
    unfold lexInt at h
    rw [hl] at h
    simp at h
  have hz : m.length = 1 ∨ hdIs m 48 48 = false := by
    rcases Bool.eq_false_or_eq_true (hdIs m 48 48) with hx | hx
    · have h1 : hdIs l 48 48 = hdIs m 48 48 := by
        rw [e]
        match m, h0 with
        | x :: m, _ => rfl
      unfold lexInt at h
      rw [hl, h1] at h
      by_cases h2 : 1 < m.length
      · rw [if_pos (Or.inr ⟨hx, h2⟩)] at h; exact absurd rfl h
      · have : m.length ≠ 0 := fun h => h0 (List.eq_nil_of_length_eq_zero h)
        exact Or.inl (by omega)
    · exact Or.inr hx
  exact ⟨m, r, e, ha, h0, hz, hr, by rw [e]; exact lexInt_run ha h0 hz hr⟩
theorem lexOf_sign {l : List UInt8} (h : hdIs l 45 45 = true) : ∃ m, l = 45 :: m ∧ lexOf l = lexInt m := by
  match l, h with
  | x :: m, h =>
    have hx : x = 45 := by
      rw [hdIs_cons, Bool.or_self, beq_iff_eq] at h
      apply UInt8.toNat_inj.1
      have : (45 : UInt8).toNat = 45 := rfl
      omega
    subst hx
    exact ⟨m, rfl, rfl⟩
theorem lexOf_plain {l : List UInt8} (h : hdIs l 45 45 = false) : lexOf l = lexInt l := by unfold lexOf; rw [h]; rfl
theorem digit_no_sign {m r : List UInt8} (ha : m.all isD = true) (h0 : m ≠ []) : hdIs (m ++ r) 45 45 = false := by
  match m, h0 with
  | x :: m, _ =>
    simp only [List.all_cons, Bool.and_eq_true] at ha
    exact isD_not (by decide) (by decide) ha.1 _
/-- What follows a whole number's text, if it begins with no digit, is told by it alone. -/
theorem int_app {s t : List UInt8} (h : lexOf s = 1) (ht : runL t = 0) : lexOf (s ++ t) = lexFrac t := by
  cases hs : hdIs s 45 45
  · rw [lexOf_plain hs] at h
    obtain ⟨m, r, e, ha, h0, hz, hr, he⟩ := lexInt_parts (by rw [h]; decide)
    obtain rfl := lexFrac_one (he.symm.trans h)
    rw [List.append_nil] at e
    subst e
    rw [lexOf_plain (digit_no_sign ha h0), lexInt_run ha h0 hz ht]
  · obtain ⟨l, rfl, e0⟩ := lexOf_sign hs
    rw [e0] at h
    obtain ⟨m, r, e, ha, h0, hz, hr, he⟩ := lexInt_parts (by rw [h]; decide)
    obtain rfl := lexFrac_one (he.symm.trans h)
    rw [List.append_nil] at e
    subst e
    show lexInt (l ++ t) = _
    exact lexInt_run ha h0 hz ht
theorem lexExp_app {q t : List UInt8} {kind res : Int} (hq : hdIs q 101 69 = true) (h : lexExp kind q = 2) (ht : lexEnd 2 (t.drop (runL t)) = res) : lexExp kind (q ++ t) = res := by
  match q, hq with
  | x :: q, hq =>
    unfold lexExp at h ⊢
    rw [if_pos hq] at h
    rw [if_pos (show hdIs (x :: q ++ t) 101 69 = true from hq)]
    show (if hdIs (q ++ t) 43 45 = true then lexDig 2 (q ++ t).tail (lexEnd 2) else lexDig 2 (q ++ t) (lexEnd 2)) = res
    have h' : (if hdIs q 43 45 = true then lexDig 2 q.tail (lexEnd 2) else lexDig 2 q (lexEnd 2)) = 2 := h
    have key : ∀ p : List UInt8, lexDig 2 p (lexEnd 2) = 2 → p ≠ [] ∧ lexDig 2 (p ++ t) (lexEnd 2) = res := by
      intro p hp
      obtain ⟨m, r, e, ha, hr, hl, hd⟩ := run_split p
      unfold lexDig at hp
      rw [hd, hl] at hp
      by_cases hm : m.length = 0
      · rw [if_pos hm] at hp; cases hp
      · rw [if_neg hm] at hp
        have hr0 : r = [] := by
          unfold lexEnd at hp
          split at hp
          · assumption
          · cases hp
        subst hr0
        rw [List.append_nil] at e
        subst e
        have h0 : p ≠ [] := fun h => hm (by rw [h]; rfl)
        exact ⟨h0, by rw [lexDig_app 2 _ ha h0]; exact ht⟩
    cases hs : hdIs q 43 45
    · rw [hs] at h'
      obtain ⟨h0, hk⟩ := key q h'
      have : hdIs (q ++ t) 43 45 = false := by
        match q, h0 with
        | y :: q, _ => exact hs
      rw [this]
      exact hk
    · rw [hs] at h'
      match q, hs with
      | y :: q, hs =>
        rw [show hdIs (y :: q ++ t) 43 45 = true from hs]
        exact (key q h').2
theorem lexFrac_app {r t : List UInt8} {res : Int} (h : lexFrac r = 2) (h1 : lexEnd 2 (t.drop (runL t)) = res) (h2 : lexExp 2 (t.drop (runL t)) = res) : lexFrac (r ++ t) = res ∧ ∃ x m, r = x :: m ∧ isD x = false := by
  unfold lexFrac at h ⊢
  cases hs : hdIs r 46 46
  · rw [hs] at h
    have he : hdIs r 101 69 = true := by
      rcases Bool.eq_false_or_eq_true (hdIs r 101 69) with hx | hx
      · exact hx
      · have h' : lexExp 1 r = 2 := h
        unfold lexExp at h'
        rw [hx] at h'
        have h'' : lexEnd 1 r = 2 := h'
        unfold lexEnd at h''
        split at h'' <;> cases h''
    obtain ⟨x, m, e, hx⟩ := hd_not_isD (by decide) (by decide) he
    refine ⟨?_, x, m, e, hx⟩
    have : hdIs (r ++ t) 46 46 = false := by rw [e] at hs ⊢; exact hs
    rw [this]
    exact lexExp_app he h h1
  · rw [hs] at h
    obtain ⟨x, m, e, hx⟩ := hd_not_isD (by decide) (by decide) hs
    refine ⟨?_, x, m, e, hx⟩
    subst e
    rw [show hdIs (x :: m ++ t) 46 46 = true from hs]
    have h' : lexDig 2 m (lexExp 2) = 2 := h
    show lexDig 2 (m ++ t) (lexExp 2) = res
    obtain ⟨m2, q, e, ha, hq, hl, hd⟩ := run_split m
    unfold lexDig at h'
    rw [hd, hl] at h'
    by_cases hm : m2.length = 0
    · rw [if_pos hm] at h'; cases h'
    · rw [if_neg hm] at h'
      have h0 : m2 ≠ [] := fun h => hm (by rw [h]; rfl)
      by_cases hq0 : q = []
      · subst hq0
        rw [List.append_nil] at e
        subst e
        rw [lexDig_app 2 _ ha h0]
        exact h2
      · have he : hdIs q 101 69 = true := by
          rcases Bool.eq_false_or_eq_true (hdIs q 101 69) with hx | hx
          · exact hx
          · unfold lexExp at h'
            rw [hx] at h'
            have h'' : lexEnd 2 q = 2 := h'
            unfold lexEnd at h''
            rw [if_neg hq0] at h''
            cases h''
        obtain ⟨y, p, ep, hy⟩ := hd_not_isD (by decide) (by decide) he
        rw [e, List.append_assoc, lexDig_run 2 _ ha h0 (by rw [ep]; exact runL_of_not hy)]
        exact lexExp_app he h' h1
/-- What follows the text of a number that is not whole. -/
theorem frac_app {s t : List UInt8} {res : Int} (h : lexOf s = 2) (h1 : lexEnd 2 (t.drop (runL t)) = res) (h2 : lexExp 2 (t.drop (runL t)) = res) : lexOf (s ++ t) = res := by
  cases hs : hdIs s 45 45
  · rw [lexOf_plain hs] at h
    obtain ⟨m, r, e, ha, h0, hz, hr, he⟩ := lexInt_parts (by rw [h]; decide)
    obtain ⟨hf, x, q, er, hx⟩ := lexFrac_app (he.symm.trans h) h1 h2
    rw [e, List.append_assoc, lexOf_plain (digit_no_sign ha h0), lexInt_run ha h0 hz (by rw [er]; exact runL_of_not hx)]
    exact hf
  · obtain ⟨l, rfl, e0⟩ := lexOf_sign hs
    rw [e0] at h
    obtain ⟨m, r, e, ha, h0, hz, hr, he⟩ := lexInt_parts (by rw [h]; decide)
    obtain ⟨hf, x, q, er, hx⟩ := lexFrac_app (he.symm.trans h) h1 h2
    show lexInt (l ++ t) = res
    rw [e, List.append_assoc, lexInt_run ha h0 hz (by rw [er]; exact runL_of_not hx)]
    exact hf
/-- A nought ahead of a number that is not whole. -/
theorem nought_app {s : List UInt8} (h : lexOf s = 2) : lexOf (48 :: s) = 0 := by
  have e0 : lexOf (48 :: s) = lexInt (48 :: s) := rfl
  rw [e0]
  have e1 : runL (48 :: s) = runL s + 1 := rfl
  cases hs : hdIs s 45 45
  · rw [lexOf_plain hs] at h
    obtain ⟨m, r, e, ha, h0, hz, hr, he⟩ := lexInt_parts (by rw [h]; decide)
    have e2 : runL s = m.length := by rw [e, runL_append m r ha, hr]; rfl
    have h3 : m.length ≠ 0 := fun h => h0 (List.eq_nil_of_length_eq_zero h)
    unfold lexInt
    rw [e1, e2, if_pos (Or.inr ⟨rfl, by omega⟩)]
  · obtain ⟨l, rfl, e2⟩ := lexOf_sign hs
    rfl
theorem dec_isD (n : Nat) : (decDigits n).all isD = true := by
  induction n using Nat.strongRecOn with
  | _ n ih =>
    by_cases h : n < 10
    · rw [decDigits_one h, List.all_cons, dg n h]; rfl
    · rw [decDigits_ten h, List.all_append, ih (n / 10) (by omega), List.all_cons, dg (n % 10) (by omega)]; rfl
where dg (n : Nat) (h : n < 10) : isD (UInt8.ofNat (48 + n)) = true := by
        unfold isD
        rw [UInt8.toNat_ofNat']
        simp
        omega
theorem dec_hd (n : Nat) : (decDigits n).length = 1 ∨ hdIs (decDigits n) 48 48 = false := by
  rcases Nat.eq_zero_or_pos n with rfl | h
  · exact Or.inl (by rw [decDigits_one (by decide)]; rfl)
  · obtain ⟨c, m, e, hc⟩ := decDigits_head n h
    refine Or.inr ?_
    rw [e, hdIs_cons, Bool.or_self, beq_eq_false_iff_ne]
    intro hx
    apply hc
    apply UInt8.toNat_inj.1
    have : (48 : UInt8).toNat = 48 := rfl
    omega
theorem lexInt_dec (n : Nat) : lexInt (decDigits n) = 1 := by
  have h := lexInt_run (r := []) (dec_isD n) (decDigits_nil n) (dec_hd n) rfl
  rw [List.append_nil] at h
  exact h
theorem lexOf_itoa (v : Int) : lexOf (itoa v) = 1 := by
  unfold itoa
  split
  · exact lexInt_dec _
  · rw [lexOf_plain (by have := digit_no_sign (r := []) (dec_isD v.toNat) (decDigits_nil _); rw [List.append_nil] at this; exact this)]
    exact lexInt_dec _
theorem end_dec (n : Nat) : lexEnd 2 ((decDigits n).drop (runL (decDigits n))) = 2 ∧ lexExp 2 ((decDigits n).drop (runL (decDigits n))) = 2 := by
  have e : (decDigits n).drop (runL (decDigits n)) = [] := by
    rw [runL_all _ (dec_isD n)]; exact List.drop_length
  rw [e]; exact ⟨rfl, rfl⟩
theorem point_dec (n : Nat) : lexFrac (46 :: decDigits n) = 2 := by
  show lexDig 2 (decDigits n) (lexExp 2) = 2
  have h := lexDig_run (r := []) 2 (lexExp 2) (dec_isD n) (decDigits_nil n) rfl
  rw [List.append_nil] at h
  rw [h]; rfl
theorem exp_dec (kind : Int) (e : UInt8) (he : hdIs [e] 101 69 = true) (p : List UInt8) (hp : p = [] ∨ p = [43] ∨ p = [45]) (n : Nat) : lexExp kind (e :: (p ++ decDigits n)) = 2 := by
  have hd := lexDig_run (r := []) 2 (lexEnd 2) (dec_isD n) (decDigits_nil n) rfl
  rw [List.append_nil] at hd
  unfold lexExp
  rw [if_pos (show hdIs (e :: (p ++ decDigits n)) 101 69 = true from he)]
  show (if hdIs (p ++ decDigits n) 43 45 = true then lexDig 2 (p ++ decDigits n).tail (lexEnd 2) else lexDig 2 (p ++ decDigits n) (lexEnd 2)) = 2
  rcases hp with rfl | rfl | rfl
  · have hs : hdIs ([] ++ decDigits n) 43 45 = false := by
      rw [List.nil_append]
      have h0 := decDigits_nil n
      have ha := dec_isD n
      match hx : decDigits n, h0 with
      | x :: m, _ =>
        rw [hx] at ha
        simp only [List.all_cons, Bool.and_eq_true] at ha
        exact isD_not (by decide) (by decide) ha.1 _
    rw [hs]
    exact hd
  · exact hd
  · exact hd
theorem lexFrac_exp {r : List UInt8} (h : hdIs r 101 69 = true) : lexFrac r = lexExp 1 r := by
  unfold lexFrac
  match r, h with
  | x :: m, h =>
    have : hdIs (x :: m) 46 46 = false := by
      rw [hdIs_cons, Bool.or_eq_true, beq_iff_eq, beq_iff_eq] at h
      rw [hdIs_cons, Bool.or_self, beq_eq_false_iff_ne]
      omega
    rw [this]
    rfl
theorem point_exp_dec (n k : Nat) (p : List UInt8) (hp : p = [] ∨ p = [43] ∨ p = [45]) : lexFrac (46 :: (decDigits n ++ (69 :: (p ++ decDigits k)))) = 2 := by
  show lexDig 2 (decDigits n ++ (69 :: (p ++ decDigits k))) (lexExp 2) = 2
  rw [lexDig_run 2 _ (dec_isD n) (decDigits_nil n) rfl]
  exact exp_dec 2 69 rfl p hp k
end Go.Proofs.YtpgooajifehbbaaDoor
