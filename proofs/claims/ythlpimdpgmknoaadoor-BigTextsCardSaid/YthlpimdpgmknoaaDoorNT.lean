/- Plain laws of numerals: their values, their letters. No program. The contract of big.Parse. Condition: a text of at most 1400 bytes. The contract of the reference's Parse. Condition: a text of at most 1400 bytes. append(out, xs...) where xs is of another slice type than out, out the call's own: as laws for the walk. No program. Rows of letters of the call's own; the reference's text, letter by letter. The contract of the reference's Text. Condition: a number (P9.1). The law BigTexts. Conditions: the table of powers of 10 is laid. -/
import Derived.Test.YthlpimdpgmknoaaDoorPin
import Derived.Test.YthlpimdpgmknoaaDoorNum
import Derived.Test.YthlpimdpgmknoaaDoorTab
import Derived.Test.YthlpimdpgmknoaaDoorNS
import Derived.Outline
import Derived.Laws.OwnMore
import Derived.Laws.AppendOwn
import Derived.Tactics
import Derived.WalkKit
import Derived.BigRegion
import Derived.Laws.BytesArg
namespace Go.Proofs.YthlpimdpgmknoaaDoor
section
open Go.Lib
set_option linter.unusedSimpArgs false
set_option linter.unusedVariables false
theorem decDigits_nil (n : Nat) : decDigits n ≠ [] := by
  intro h
  have := decDigits_length n
  rw [h] at this
  have := nDigits_pos n
  simp at *
  omega
theorem decDigits_head : ∀ n : Nat, 0 < n → ∃ c m, decDigits n = c :: m ∧ c ≠ 48 := by
  intro n
  induction n using Nat.strongRecOn with
  | _ n ih =>
    intro h0
    by_cases h : n < 10
    · refine ⟨UInt8.ofNat (48 + n), [], by rw [decDigits_one h], ?_⟩
      intro he
      have := congrArg UInt8.toNat he
      rw [UInt8.toNat_ofNat'] at this
      have h48 : (48 : UInt8).toNat = 48 := rfl
      omega
    · obtain ⟨c, m, he, hc⟩ := ih (n / 10) (by omega) (by omega)
      exact ⟨c, m ++ [UInt8.ofNat (48 + n % 10)], by rw [decDigits_ten h, he]; rfl, hc⟩
theorem dval_cons (a : Nat) (c : UInt8) (l : List UInt8) : dval a (c :: l) = dval (a * 10 + (c.toNat - 48)) l := by unfold dval; rw [List.foldl_cons]
theorem dval_snoc (a : Nat) (l : List UInt8) (c : UInt8) : dval a (l ++ [c]) = dval a l * 10 + (c.toNat - 48) := by unfold dval; rw [List.foldl_append]; rfl
theorem dval_ge : ∀ (l : List UInt8) (a : Nat), a ≤ dval a l
  | [], a => Nat.le_refl _
  | c :: l, a => by
    rw [dval_cons]
    have := dval_ge l (a * 10 + (c.toNat - 48))
    omega
theorem dval_dec (n : Nat) : dval 0 (decDigits n) = n := by
  induction n using Nat.strongRecOn with
  | _ n ih =>
    by_cases h : n < 10
    · rw [decDigits_one h]
      show 0 * 10 + ((UInt8.ofNat (48 + n)).toNat - 48) = n
      rw [UInt8.toNat_ofNat']
      omega
    · rw [decDigits_ten h, dval_snoc, ih (n / 10) (by omega), UInt8.toNat_ofNat']
      omega
theorem isD_iff {c : UInt8} : isD c = true ↔ 48 ≤ c.toNat ∧ c.toNat ≤ 57 := by unfold isD; simp
theorem dec_isD (n : Nat) : (decDigits n).all isD = true := by
  induction n using Nat.strongRecOn with
  | _ n ih =>
    by_cases h : n < 10
    · rw [decDigits_one h, List.all_cons, dig9 n h]; rfl
    · rw [decDigits_ten h, List.all_append, ih (n / 10) (by omega), List.all_cons, dig9 (n % 10) (by omega)]; rfl
where dig9 (n : Nat) (h : n < 10) : isD (UInt8.ofNat (48 + n)) = true := by
        unfold isD
        rw [UInt8.toNat_ofNat']
        simp
        omega
end
section
open Go.RowKit
set_option linter.unusedSimpArgs false
set_option linter.unusedVariables false
attribute [local irreducible] Fl.K
/-- A text that is a numeral: digits, no nought ahead. -/
def numl (l : List UInt8) : Prop := l ≠ [] ∧ l.all isD = true ∧ (l.length = 1 ∨ l.head? ≠ some 48)
instance (l : List UInt8) : Decidable (numl l) := by unfold numl; infer_instance
def parseO (l : List UInt8) : Option Nat := if numl l ∧ (dg (dval 0 l)).length ≤ 256 then some (dval 0 l) else none
theorem dval_ge0 (l : List UInt8) (a : Nat) : a * 10 ^ l.length ≤ dval a l := by
  induction l generalizing a with
  | nil => simp [dval]
  | cons c l ih =>
    rw [dval_cons, List.length_cons, Nat.pow_succ]
    have h := ih (a * 10 + (c.toNat - 48))
    have h2 := Nat.mul_le_mul_right (10 ^ l.length) (show a * 10 ≤ a * 10 + (c.toNat - 48) by omega)
    rw [Nat.mul_comm (10 ^ l.length) 10, ← Nat.mul_assoc]
    omega
theorem ten_pow (E : Nat) (hE : E = 1240) : 65536 ^ 256 ≤ 10 ^ E := by
  have h1 : (2 : Nat) ^ 205 ≤ 10 ^ 62 := by decide +kernel
  obtain ⟨k, hk⟩ : ∃ k, k = 20 := ⟨_, rfl⟩
  have h2 : ((2 : Nat) ^ 205) ^ k ≤ (10 ^ 62) ^ k := Nat.pow_le_pow_left h1 k
  rw [← Nat.pow_mul, ← Nat.pow_mul] at h2
  have h3 : (65536 : Nat) ^ 256 ≤ 2 ^ (205 * k) := by
    obtain ⟨E, hE⟩ : ∃ E, E = 256 := ⟨_, rfl⟩
    rw [← hE, show (65536 : Nat) = 2 ^ 16 from rfl, ← Nat.pow_mul]
    exact Nat.pow_le_pow_right (by decide) (by omega)
  have h4 : (10 : Nat) ^ (62 * k) = 10 ^ E := congrArg (fun n => 10 ^ n) (by omega)
  rw [← h4]
  exact Nat.le_trans h3 h2
theorem parse_long {l : List UInt8} (h : 1240 < l.length) : parseO l = none := by
  unfold parseO
  rw [if_neg]
  rintro ⟨⟨h1, h2, h3⟩, h4⟩
  match l, h1 with
  | c :: l, _ =>
    have hc : isD c = true := by
      rw [List.all_cons, Bool.and_eq_true] at h2
      exact h2.1
    have hc2 := isD_iff.1 hc
    have hne : c ≠ 48 := by
      rcases h3 with h3 | h3
      · rw [List.length_cons] at h3 h; omega
      · simpa using h3
    have hc3 : c.toNat ≠ 48 := fun e => hne (UInt8.toNat_inj.1 (by rw [e]; rfl))
    have hv : 10 ^ l.length ≤ dval 0 (c :: l) := by
      rw [dval_cons]
      have h5 := dval_ge0 l (0 * 10 + (c.toNat - 48))
      have h6 := Nat.mul_le_mul_right (10 ^ l.length) (show 1 ≤ 0 * 10 + (c.toNat - 48) by omega)
      omega
    obtain ⟨E, hE⟩ : ∃ E, E = 1240 := ⟨_, rfl⟩
    have h7 : 10 ^ E ≤ 10 ^ l.length := Nat.pow_le_pow_right (by decide) (by rw [List.length_cons] at h; omega)
    have h8 := dg_len_gt (Nat.le_trans (ten_pow E hE) (Nat.le_trans h7 hv))
    omega
theorem parse_bad {l : List UInt8} {k : Nat} (hk : k < l.length) (h : isD l[k] = false) : parseO l = none := by
  unfold parseO
  rw [if_neg]
  rintro ⟨⟨_, h2, _⟩, _⟩
  have := List.all_eq_true.1 h2 l[k] (List.getElem_mem hk)
  rw [h] at this
  cases this
theorem parse_nought {l : List UInt8} (h : l.head? = some 48) (h2 : 1 < l.length) : parseO l = none := by
  unfold parseO
  rw [if_neg]
  rintro ⟨⟨_, _, h3⟩, _⟩
  rcases h3 with h3 | h3
  · omega
  · exact h3 h
theorem mulq_len {v q : Nat} (hq : q ≤ 9) : (dg (v * 10 + q)).length ≤ (dg v).length + 1 := by
  refine dg_len_le ?_
  have h := val_lt (dig_dg v)
  rw [val_dg] at h
  rw [Nat.pow_succ]
  generalize 65536 ^ (dg v).length = A at *
  omega
set_option maxHeartbeats 3200000 in
set_option maxRecDepth 100000 in
theorem bigParse_any (s : ByteArray) (hz : s.size ≤ 1400) (w : World) :
    Calls Tryd.prog 15 #[.string s] w (RetPw (parseO s.data.toList) w) := by
  have hlen : s.data.toList.length = s.size := by simp
  have hse : s.toList.isEmpty = decide (s.size = 0) := by
    rw [ByteArray.toList_eq, ← hlen]
    cases s.data.toList <;> simp
  obtain ⟨O, hO⟩ : ∃ O, parseO s.data.toList = O := ⟨_, rfl⟩
  rw [hO]
  by_cases h0 : s.size = 0
  · have hOn : O = none := by
      rw [← hO]; unfold parseO
      rw [if_neg]
      rintro ⟨⟨h1, _⟩, _⟩
      exact h1 (List.eq_nil_of_length_eq_zero (by omega))
    subst hOn
    rw [decide_eq_true h0] at hse
    clear hO hlen
    go_enter Tryd.func15, Tryd.ntmps15
    go_wp2_with fail
    go_ret2
    exact retPw_none (Below.refl _ _)
  · rw [decide_eq_false h0] at hse
    have hs0 : 0 < s.size := Nat.pos_of_ne_zero h0
    by_cases h1240 : 1240 < s.size
    · have hOn : O = none := by rw [← hO]; exact parse_long (by omega)
      subst hOn
      clear hO hlen
      go_enter Tryd.func15, Tryd.ntmps15
      go_wp2_with fail
      go_ret2
      exact retPw_none (Below.refl _ _)
    · have hb0 : (s[0]'hs0).toNat < 256 := UInt8.toNat_lt _
      have hhd : s.data.toList.head? = some (s[0]'hs0) := by
        rw [List.head?_eq_getElem?, List.getElem?_eq_getElem (by omega)]; rfl
      by_cases hn : (s[0]'hs0).toNat = 48 ∧ 1 < s.size
      · obtain ⟨n1, n2⟩ := hn
        have hOn : O = none := by
          rw [← hO]
          refine parse_nought ?_ (by omega)
          rw [hhd]
          congr 1
          exact UInt8.toNat_inj.1 (by rw [n1]; rfl)
        subst hOn
        have q0 : (((s[0]'hs0).toNat : Int) == 48) = true := beq_t (by omega)
        have n3 : (1 : Int) < (s.size : Int) := by omega
        clear hO hlen hhd n1
        go_enter Tryd.func15, Tryd.ntmps15
        go_wp2_with fail
        go_ret2
        exact retPw_none (Below.refl _ _)
      · have hq0 : (((s[0]'hs0).toNat : Int) == 48) = false ∨ ((((s[0]'hs0).toNat : Int) == 48) = true ∧ s.size = 1) := by
          by_cases h : (s[0]'hs0).toNat = 48
          · exact Or.inr ⟨beq_t (by omega), by omega⟩
          · exact Or.inl (beq_f (by omega))
        have HN : Hid (s.data.toList.all isD = true → numl s.data.toList) := Lib.hid (fun h => by
          refine ⟨fun e => by rw [e] at hlen; simp at hlen; omega, h, ?_⟩
          by_cases h1 : s.size = 1
          · exact Or.inl (by omega)
          · right
            rw [hhd]
            intro e
            injection e with e
            exact hn ⟨by rw [e]; rfl, by omega⟩)
        have HO := Lib.hid hO
        have HL := Lib.hid hlen
        have MO := Lib.hid (fun (v q : Nat) (Q : Int) (x : Option Addr) (L cx : Nat) (hQ : Q = (q : Int)) (hL : (dg v).length = L) (hzz : L ≤ 2000) (hq : q ≤ 65535) w h => more_any x L cx (dg v) 10 q 10 Q rfl hQ hL hzz (can_dg _) (by decide) (by decide) hq w h)
        have IS := Lib.hid (fun (V : Nat) (x : Option Addr) (L cx : Nat) (hL : (dg V).length = L) (hz : L ≤ 100000) w h => bigIs_any x L cx (dg V) hL hz w h)
        have hs1 : (0 : Int) < (s.size : Int) := by omega
        clear hO hlen hhd hn
        rcases hq0 with hq0 | ⟨hq0, hsz1⟩
        all_goals
          go_enter Tryd.func15, Tryd.ntmps15
          go_wp2_with fail
          go_loopw [4, 25] (fun p i wr => ∃ (K v L : Nat) (x : Option Addr) (cc : Nat), i = .int .i64 K ∧ p = .slice x L cc ∧ K ≤ s.size ∧ Hid ((s.data.toList.take K).all isD = true) ∧ Hid (dval 0 (s.data.toList.take K) = v) ∧ Hid ((dg v).length = L) ∧ L ≤ K ∧ Sl .u16 wr x L (gi (dg v)) ∧ Below w.heap.size w wr) (fun _ i _ => s.size - (intOf i).toNat)
          case atStart => exact ⟨0, 0, 0, none, 0, rfl, rfl, Nat.zero_le _, Lib.hid rfl, Lib.hid rfl, Lib.hid (by rw [dg_zero]; rfl), Nat.le_refl _, Sl.none _ _ _ _, Below.refl _ _⟩
          case round =>
            obtain ⟨K, v, L, x, cc, rfl, rfl, hK, HA, HV, HG, hLK, hs, hbw⟩ := hrel
            by_cases hK4 : K < s.size
            · have hbyte : s[K].toNat < 256 := UInt8.toNat_lt _
              have hin : K < s.data.toList.length := by rw [HL.out]; exact hK4
              have hgk : s.data.toList[K] = s[K] := rfl
              by_cases hd1 : s[K].toNat < 48
              · have hno : O = none := by rw [← HO.out]; exact parse_bad hin (by rw [hgk, Bool.eq_false_iff]; intro h; have := isD_iff.1 h; omega)
                subst hno
                clear hgk hs
                go_wp2_with fail
                go_ret2
                exact retPw_none hbw
              · by_cases hd2 : 57 < s[K].toNat
                · have hno : O = none := by rw [← HO.out]; exact parse_bad hin (by rw [hgk, Bool.eq_false_iff]; intro h; have := isD_iff.1 h; omega)
                  subst hno
                  clear hgk hs
                  go_wp2_with fail
                  go_ret2
                  exact retPw_none hbw
                · have hsub : IntKind.u8.wrap ((s[K].toNat : Int) - 48) = (s[K].toNat : Int) - 48 := IntWalk.u8_in _ (by omega)
                  have HA2 : Hid ((s.data.toList.take (K + 1)).all isD = true) := Lib.hid (by
                    rw [take_more s K hK4, List.all_append, HA.out, List.all_cons, isD_iff.2 ⟨by omega, by omega⟩]; rfl)
                  obtain ⟨q, hq⟩ : ∃ q : Nat, q = s[K].toNat - 48 := ⟨_, rfl⟩
                  have HV2 : Hid (dval 0 (s.data.toList.take (K + 1)) = v * 10 + q) := Lib.hid (by
                    rw [take_more s K hK4, dval_snoc, HV.out, hq])
                  have MM := MO.out v q ((s[K].toNat : Int) - 48) x L cc (by omega) HG.out (by omega) (by omega) wr hs
                  rw [val_dg] at MM
                  obtain ⟨M, hM⟩ : ∃ M, (dg (v * 10 + q)).length = M := ⟨_, rfl⟩
                  have hM1 : M ≤ K + 1 := by
                    have := mulq_len (v := v) (q := q) (by omega)
                    have := HG.out
                    omega
                  have MM := Lib.hid (MM.mono (fun e w' (h : RetU _ _ _ _) => memU_of h hM))
                  unfold MemU at MM
                  have HM := Lib.hid hM
                  have hzw := hbw.size
                  clear hgk hs hM hq
                  go_wp2_with fail
                  with_reducible refine (MM.out).mono ?_
                  rintro e w2 ⟨x2, cx2, rfl, s2, hb2'⟩
                  have hw2 : Below w.heap.size w w2 := hbw.trans (hb2'.mono hzw)
                  have S2 := Lib.hid s2
                  clear hb2' s2
                  go_wp2_with fail
                  go_roundw
                  case rel => exact ⟨K + 1, v * 10 + q, M, x2, cx2, by go_num, rfl, by omega, HA2, HV2, HM, hM1, S2.out, hw2⟩
                  case measure => first | (simp [intOf]; done) | (simp [intOf]; omega)
            · have hKe : K = s.size := by omega
              have hfull : s.data.toList.take K = s.data.toList := List.take_of_length_le (by rw [HL.out]; omega)
              have hall := HA.out
              have hval := HV.out
              rw [hfull] at hall hval
              have hnum := HN.out hall
              have II := IS.out v x L cc HG.out (by omega) wr hs
              by_cases hL256 : L ≤ 256
              · have hOs : O = some v := by
                  rw [← HO.out]; unfold parseO
                  rw [if_pos ⟨hnum, by rw [hval, HG.out]; exact hL256⟩, hval]
                subst hOs
                rw [isB_dg (v := v) (k := 256) (by rw [HG.out]; exact hL256) (by decide)] at II
                have II := Lib.hid II
                have HS := Lib.hid hs
                clear hfull hall hval hnum hs hKe
                go_wp2_with fail
                with_reducible refine (II.out).mono ?_
                rintro e w' ⟨rfl, rfl⟩
                go_wp2_with fail
                go_ret2
                exact retPw_some HG.out HS.out hbw
              · have hOn : O = none := by
                  rw [← HO.out]; unfold parseO
                  rw [if_neg (fun h => hL256 (by have := h.2; rw [hval, HG.out] at this; exact this))]
                subst hOn
                have hno : isB (dg v) = false := by
                  cases h : isB (dg v) with
                  | false => rfl
                  | true => have := (isB_iff.1 h).1; rw [HG.out] at this; omega
                rw [hno] at II
                have II := Lib.hid II
                clear hfull hall hval hnum hs hno hKe
                go_wp2_with fail
                all_goals
                  with_reducible refine (II.out).mono ?_
                  rintro e w' ⟨rfl, rfl⟩
                  go_wp2_with fail
                  go_ret2
                  exact retPw_none hbw
end
section
open Go.RowKit
set_option linter.unusedSimpArgs false
set_option linter.unusedVariables false
attribute [local irreducible] Fl.K
/-- What a parser answers whose failing answer's number is of no moment. -/
def RetQ (o : Option Nat) (w : World) (e : Ending) (w' : World) : Prop := ∃ x L cx, e = .returned (.tuple #[.slice x L cx, .bool o.isSome]) ∧ (∀ V, o = some V → (dg V).length = L ∧ Sl .u16 w' x L (gi (dg V))) ∧ Below w.heap.size w w'
theorem retQ_none {w w' : World} {x : Option Addr} {L cx : Nat} (h : Below w.heap.size w w') : RetQ none w (.returned (.tuple #[.slice x L cx, .bool false])) w' := ⟨x, L, cx, rfl, fun V hV => (by cases hV), h⟩
theorem retQ_some {V : Nat} {w w' : World} {x : Option Addr} {cx : Nat} {L : Nat} (hL : (dg V).length = L) (s : Sl .u16 w' x L (gi (dg V))) (h : Below w.heap.size w w') : RetQ (some V) w (.returned (.tuple #[.slice x L cx, .bool true])) w' := ⟨x, L, cx, rfl, fun V hV => (by cases hV; exact ⟨hL, s⟩), h⟩
/-- An owned row of length L, in the hand. -/
theorem own_in {w : World} {base : Nat} {v : Value} {l : List Nat} {L : Nat} (h : OwnU w base v l) (hL : l.length = L) : ∃ ad c, v = .slice ad L c ∧ L ≤ c ∧ OwnU w base (.slice ad L c) l := by
  obtain ⟨ad, c, rfl, hc, _⟩ := own_sl h
  rw [hL] at hc h
  exact ⟨ad, c, by rw [hL], hc, h⟩
theorem own_on {w : World} {base : Nat} {ad : Option Addr} {c : Nat} {l : List Nat} {L : Nat} (h : OwnU w base (.slice ad L c) l) (hL : l.length = L) (h0 : L ≠ 0) : ∃ g, ad = some ⟨g, 0, none⟩ ∧ base ≤ g ∧ OwnA w base g c L l := by
  obtain ⟨g, cap, e, hg, hc, o⟩ := ownA_of h (by omega)
  injection e with e1 e2 e3
  subst e1 e3
  rw [hL] at o
  exact ⟨g, rfl, hg, o⟩
theorem own_sl_in {w : World} {base : Nat} {ad : Option Addr} {c : Nat} {l : List Nat} {L : Nat} (h : OwnU w base (.slice ad L c) l) (hL : l.length = L) : Sl .u16 w ad L (gi l) := by
  obtain ⟨ad', c', e, hc, s⟩ := own_sl h
  injection e with e1 e2 e3
  subst e1
  rw [hL] at s
  exact s
set_option maxHeartbeats 3200000 in
set_option maxRecDepth 100000 in
theorem refParse_any (s : ByteArray) (hz : s.size ≤ 1400) (w : World) :
    Calls Tryd.prog 16 #[.string s] w (RetQ (parseO s.data.toList) w) := by
  obtain ⟨i0, hi, iz0, iz1, iz2⟩ := info_parts info_u16
  have hlen : s.data.toList.length = s.size := by simp
  have hse : s.toList.isEmpty = decide (s.size = 0) := by
    rw [ByteArray.toList_eq, ← hlen]
    cases s.data.toList <;> simp
  obtain ⟨O, hO⟩ : ∃ O, parseO s.data.toList = O := ⟨_, rfl⟩
  rw [hO]
  by_cases h0 : s.size = 0
  · have hOn : O = none := by
      rw [← hO]; unfold parseO
      rw [if_neg]
      rintro ⟨⟨h1, _⟩, _⟩
      exact h1 (List.eq_nil_of_length_eq_zero (by omega))
    subst hOn
    rw [decide_eq_true h0] at hse
    clear hO hlen
    go_enter Tryd.func16, Tryd.ntmps16
    go_wp2_with fail
    go_ret2
    exact retQ_none (Below.refl _ _)
  · rw [decide_eq_false h0] at hse
    have hs0 : 0 < s.size := Nat.pos_of_ne_zero h0
    by_cases h1300 : 1300 < s.size
    · have hOn : O = none := by rw [← hO]; exact parse_long (by omega)
      subst hOn
      clear hO hlen
      go_enter Tryd.func16, Tryd.ntmps16
      go_wp2_with fail
      go_ret2
      exact retQ_none (Below.refl _ _)
    · have hb0 : (s[0]'hs0).toNat < 256 := UInt8.toNat_lt _
      have hhd : s.data.toList.head? = some (s[0]'hs0) := by
        rw [List.head?_eq_getElem?, List.getElem?_eq_getElem (by omega)]; rfl
      by_cases hn : (s[0]'hs0).toNat = 48 ∧ 1 < s.size
      · obtain ⟨n1, n2⟩ := hn
        have hOn : O = none := by
          rw [← hO]
          refine parse_nought ?_ (by omega)
          rw [hhd]
          congr 1
          exact UInt8.toNat_inj.1 (by rw [n1]; rfl)
        subst hOn
        have q0 : (((s[0]'hs0).toNat : Int) == 48) = true := beq_t (by omega)
        have n3 : (1 : Int) < (s.size : Int) := by omega
        clear hO hlen hhd n1
        go_enter Tryd.func16, Tryd.ntmps16
        go_wp2_with fail
        go_ret2
        exact retQ_none (Below.refl _ _)
      · have hq0 : (((s[0]'hs0).toNat : Int) == 48) = false ∨ ((((s[0]'hs0).toNat : Int) == 48) = true ∧ s.size = 1) := by
          by_cases h : (s[0]'hs0).toNat = 48
          · exact Or.inr ⟨beq_t (by omega), by omega⟩
          · exact Or.inl (beq_f (by omega))
        have HN : Hid (s.data.toList.all isD = true → numl s.data.toList) := Lib.hid (fun h => by
          refine ⟨fun e => by rw [e] at hlen; simp at hlen; omega, h, ?_⟩
          by_cases h1 : s.size = 1
          · exact Or.inl (by omega)
          · right
            rw [hhd]
            intro e
            injection e with e
            exact hn ⟨by rw [e]; rfl, by omega⟩)
        have HO := Lib.hid hO
        have HL := Lib.hid hlen
        have IS := Lib.hid (fun (V : Nat) (x : Option Addr) (L cx : Nat) (hL : (dg V).length = L) (hz : L ≤ 100000) w h => refIs_any x L cx (dg V) hL hz w h)
        have hs1 : (0 : Int) < (s.size : Int) := by omega
        clear hO hlen hhd hn
        rcases hq0 with hq0 | ⟨hq0, hsz1⟩
        all_goals
          go_enter Tryd.func16, Tryd.ntmps16
          go_wp2_with fail
          go_loopw [4, 5] (fun p i wr => ∃ (K v L : Nat) (x : Option Addr) (cc : Nat), i = .int .i64 K ∧ p = .slice x L cc ∧ K ≤ s.size ∧ Hid ((s.data.toList.take K).all isD = true) ∧ Hid (dval 0 (s.data.toList.take K) = v) ∧ Hid ((dg v).length = L) ∧ L ≤ K ∧ OwnU wr w.heap.size (.slice x L cc) (dg v) ∧ Below w.heap.size w wr) (fun _ i _ => s.size - (intOf i).toNat)
          case atStart => exact ⟨0, 0, 0, none, 0, rfl, rfl, Nat.zero_le _, Lib.hid rfl, Lib.hid rfl, Lib.hid (by rw [dg_zero]; rfl), Nat.le_refl _, by rw [dg_zero]; exact OwnU.nil _ _, Below.refl _ _⟩
          case round =>
            obtain ⟨K, v, L, ad, cc, rfl, rfl, hK, HA, HV, HG, hLK, hown, hbw⟩ := hrel
            replace hown := Lib.hid hown
            by_cases hK4 : K < s.size
            · have hbyte : s[K].toNat < 256 := UInt8.toNat_lt _
              have hin : K < s.data.toList.length := by rw [HL.out]; exact hK4
              have hgk : s.data.toList[K] = s[K] := rfl
              by_cases hd1 : s[K].toNat < 48
              · have hno : O = none := by rw [← HO.out]; exact parse_bad hin (by rw [hgk, Bool.eq_false_iff]; intro h; have := isD_iff.1 h; omega)
                subst hno
                clear hgk
                go_wp2_with fail
                go_ret2
                exact retQ_none hbw
              · by_cases hd2 : 57 < s[K].toNat
                · have hno : O = none := by rw [← HO.out]; exact parse_bad hin (by rw [hgk, Bool.eq_false_iff]; intro h; have := isD_iff.1 h; omega)
                  subst hno
                  clear hgk
                  go_wp2_with fail
                  go_ret2
                  exact retQ_none hbw
                · have hsub : IntKind.u8.wrap ((s[K].toNat : Int) - 48) = (s[K].toNat : Int) - 48 := IntWalk.u8_in _ (by omega)
                  have hsub2 : IntKind.i64.wrap ((s[K].toNat : Int) - 48) = (s[K].toNat : Int) - 48 := IntWalk.i64_in _ (by omega)
                  have HA2 : Hid ((s.data.toList.take (K + 1)).all isD = true) := Lib.hid (by
                    rw [take_more s K hK4, List.all_append, HA.out, List.all_cons, isD_iff.2 ⟨by omega, by omega⟩]; rfl)
                  obtain ⟨q, hq⟩ : ∃ q : Nat, q = s[K].toNat - 48 := ⟨_, rfl⟩
                  have HV2 : Hid (dval 0 (s.data.toList.take (K + 1)) = v * 10 + q) := Lib.hid (by
                    rw [take_more s K hK4, dval_snoc, HV.out, hq])
                  have hq9 : q ≤ 9 := by omega
                  have HM1 : Hid ((dg (v * 10 + q)).length ≤ K + 1) := Lib.hid (by
                    have := mulq_len (v := v) (q := q) hq9
                    have := HG.out
                    omega)
                  have HX0 : Hid ((s[K].toNat : Int) - 48 = ((moC (dg v) 10 q 0 : Nat) : Int)) := Lib.hid (by rw [moC]; omega)
                  have HMO : Hid (moL (dg v) 10 q = dg (v * 10 + q)) := Lib.hid (by
                    have := moL_dg (a := dg v) (b := 10) (c := q) (can_dg v) (by decide) (by decide) (by omega)
                    rw [val_dg] at this
                    exact this)
                  have HI := Lib.hid (fun T => gi_bd (dig_dg v) T)
                  have HCL := Lib.hid (fun T => moC_le (a := dg v) (b := 10) (c := q) (dig_dg v) (by decide) (by omega) T)
                  have hqi0 : (0 : Int) ≤ (s[K].toNat : Int) - 48 := by omega
                  have hqi1 : (s[K].toNat : Int) - 48 ≤ 9 := by omega
                  clear hgk hq
                  go_wp2_with fail
                  go_loopw [6, 7] (fun r k wr => ∃ (T : Nat) (x : Int), T ≤ L ∧ k = .int .i64 T ∧ r = .int .i64 x ∧ Hid (x = ((moC (dg v) 10 q T : Nat) : Int)) ∧ 0 ≤ x ∧ x ≤ 65535 ∧ OwnU wr w.heap.size (.slice ad L cc) (mixL L (moD (dg v) 10 q) (dg v) T) ∧ Below w.heap.size w wr) (fun _ k _ => L - (intOf k).toNat)
                  case atStart => exact ⟨0, (s[K].toNat : Int) - 48, Nat.zero_le _, by go_num, by first | rfl | (simp; done) | (simp [*]; done), HX0, hqi0, by omega, by have h := hown.out; have e := HG.out; subst e; rw [mixL_zero]; exact h, hbw⟩
                  case round =>
                    clear hown hbw HX0
                    obtain ⟨T, x, hT, rfl, rfl, hx, x0, x1, oK, hbw⟩ := hrel
                    have hzw := hbw.size
                    by_cases hT4 : T < L
                    · first
                      | (exfalso; omega)
                      | (obtain ⟨g, rfl, hg, oA⟩ := own_on oK (mixL_len _ _ _ _) (by omega)
                         clear oK
                         have ck := oA.at T hT4
                         rw [show gi (mixL L (moD (dg v) 10 q) (dg v) T) T = gi (dg v) T by unfold gi; rw [mixL_getD hT4, if_neg (Nat.lt_irrefl _)]] at ck
                         have fr := oA.free T
                         have rl := oA.lt.2
                         have bx := HI.out T
                         have hmax := HCL.out (T + 1)
                         obtain ⟨y, hy⟩ : ∃ y : Int, y = x + gi (dg v) T * 10 := ⟨_, rfl⟩
                         have hD : y % 65536 = ((moD (dg v) 10 q T : Nat) : Int) := by rw [hy, hx.out]; unfold moD gi; omega
                         have hC : y / 65536 = ((moC (dg v) 10 q (T + 1) : Nat) : Int) := by rw [hy, hx.out, moC]; unfold gi; omega
                         have hS := Lib.hid (fun (W : World) (o : OwnA W w.heap.size g cc L (mixL L (moD (dg v) 10 q) (dg v) T)) => ((o.set T _ _ hD).congr (mixL_step hT4)).toU)
                         have HC := Lib.hid hC
                         have HC2 : Hid (0 ≤ y / 65536 ∧ y / 65536 ≤ 65535) := Lib.hid (by rw [hC]; omega)
                         replace oA := Lib.hid oA
                         have hy2 : x + gi (dg v) T * 10 = y := hy.symm
                         generalize gi (dg v) T = u at *
                         obtain ⟨u0, u1⟩ := bx
                         have y0 : 0 ≤ y := by omega
                         have y1 : y ≤ 720885 := by omega
                         have eW : IntKind.u16.wrap (y % 65536) = y % 65536 := by rw [IntKind.wrap_u16]; omega
                         have ew2 : IntKind.i64.wrap (u * 10) = u * 10 := IntWalk.i64_in _ (by omega)
                         clear hD hC hy
                         go_wp2_with fail
                         go_roundw
                         case rel => exact ⟨T + 1, y / 65536, by omega, by go_num, by first | rfl | (simp; done), HC, HC2.out.1, HC2.out.2, hS.out _ oA.out, by repeat' (first | (with_reducible assumption) | (with_reducible exact Below.refl _ _) | (with_reducible refine below_drewN ?_ _) | (with_reducible refine Below.drew ?_) | (with_reducible refine Below.setCell ?_ ?_ _) | (with_reducible refine Below.alloc ?_ ?_ _) | omega | (simp; done) | (simp; omega))⟩
                         case measure => first | (simp [intOf]; done) | (simp [intOf]; omega))
                    · obtain rfl : T = L := by omega
                      rw [mixL_end] at oK
                      have hRR := HMO.out
                      unfold moL at hRR
                      rw [HG.out] at hRR
                      have hrl : ((List.range T).map (moD (dg v) 10 q)).length = T := by simp
                      by_cases hx0 : x = 0
                      · subst hx0
                        rw [if_pos (by have := hx.out; omega), List.append_nil] at hRR
                        rw [hRR] at oK hrl
                        have HO2 := Lib.hid oK
                        have HG2 := Lib.hid hrl
                        have hle : T ≤ K + 1 := by omega
                        clear hRR oK hx HMO hrl
                        go_wp2_with fail
                        go_roundw
                        case rel => exact ⟨K + 1, v * 10 + q, T, ad, cc, by go_num, by first | rfl | (simp; done), by omega, HA2, HV2, HG2, hle, HO2.out, hbw⟩
                        case measure => first | (simp [intOf]; done) | (simp [intOf]; omega)
                      · rw [if_neg (by have := hx.out; omega)] at hRR
                        have xp : 0 < x := by omega
                        have HRR := Lib.hid hRR
                        have eW : IntKind.u16.wrap x = x := by rw [IntKind.wrap_u16]; omega
                        have HRL := Lib.hid hrl
                        obtain ⟨l, hl⟩ : ∃ l, (List.range T).map (moD (dg v) 10 q) = l := ⟨_, rfl⟩
                        rw [hl] at oK hrl HRR HRL
                        have oU := Lib.hid oK
                        obtain ⟨wo, rfl⟩ : ∃ wo : World, wo = wr := ⟨_, rfl⟩
                        have OB := Lib.hid (fun k hk => own_lt oK k hk)
                        clear hRR oK HMO hl hrl
                        go_wp2_with (at_builtin; refine wpList_append_own _ rfl _ _ 22 rfl w.heap.size 45 i0 (.int .u16 0) 1 2 Tryd.underlying22 hi iz0 iz1 iz2 rfl (by decide) _ T _ rfl ((by have h := oU.out; unfold OwnU at h; rw [HRL.out] at h; exact h : World.ownsRow _ _ _ _ _ T _).alloc _) ⟨wo.heap.size, 0, none⟩ 1 1 [.int .u16 x] rfl rfl (cell_one_new _ _ _) one_u16 (by unfold maxLen; omega) (by omega) (by first | assumption | (simp; omega)) ?_; intro v5 w5 hown5 hgrow5 _)
                        have hw5 : Below w.heap.size w w5 := Below.grown (hbw.alloc (by first | assumption | omega) _) hgrow5 (by first | assumption | (simp; omega)) (fun k hk => OB.out k hk)
                        clear hgrow5
                        have O5 : OwnU w5 w.heap.size v5 (l ++ [moC (dg v) 10 q T]) := own_app hx.out (by rw [HRL.out]; exact hown5)
                        clear hown5
                        rw [HRR.out] at O5
                        obtain ⟨M, hM⟩ : ∃ M, (dg (v * 10 + q)).length = M := ⟨_, rfl⟩
                        obtain ⟨ad5, c5, rfl, hc5, o5⟩ := own_in O5 hM
                        have HM2 := Lib.hid hM
                        have hle : M ≤ K + 1 := by have := HM1.out; omega
                        have HO5 := Lib.hid o5
                        clear O5 o5 hM
                        go_wp2_with fail
                        go_roundw
                        case rel => exact ⟨K + 1, v * 10 + q, M, ad5, c5, by go_num, by first | rfl | (simp; done), by omega, HA2, HV2, HM2, hle, HO5.out, hw5⟩
                        case measure => first | (simp [intOf]; done) | (simp [intOf]; omega)
            · have hKe : K = s.size := by omega
              have hfull : s.data.toList.take K = s.data.toList := List.take_of_length_le (by rw [HL.out]; omega)
              have hall := HA.out
              have hval := HV.out
              rw [hfull] at hall hval
              have hnum := HN.out hall
              have hs := own_sl_in hown.out HG.out
              have II := IS.out v ad L cc HG.out (by omega) wr hs
              by_cases hL256 : L ≤ 256
              · have hOs : O = some v := by
                  rw [← HO.out]; unfold parseO
                  rw [if_pos ⟨hnum, by rw [hval, HG.out]; exact hL256⟩, hval]
                subst hOs
                rw [isB_dg (v := v) (k := 256) (by rw [HG.out]; exact hL256) (by decide)] at II
                have II := Lib.hid II
                have HS := Lib.hid hs
                clear hfull hall hval hnum hs hKe
                go_wp2_with fail
                with_reducible refine (II.out).mono ?_
                rintro e w' ⟨rfl, rfl⟩
                go_wp2_with fail
                go_ret2
                exact retQ_some HG.out HS.out hbw
              · have hOn : O = none := by
                  rw [← HO.out]; unfold parseO
                  rw [if_neg (fun h => hL256 (by have := h.2; rw [hval, HG.out] at this; exact this))]
                subst hOn
                have hno : isB (dg v) = false := by
                  cases h : isB (dg v) with
                  | false => rfl
                  | true => have := (isB_iff.1 h).1; rw [HG.out] at this; omega
                rw [hno] at II
                have II := Lib.hid II
                clear hfull hall hval hnum hs hno hKe
                go_wp2_with fail
                all_goals
                  with_reducible refine (II.out).mono ?_
                  rintro e w' ⟨rfl, rfl⟩
                  go_wp2_with fail
                  go_ret2
                  exact retQ_none hbw
end
section
open Go
set_option linter.unusedSimpArgs false
set_option linter.unusedVariables false
theorem run_append_two {P : Program} (w : World) (t u ty e e' : TypeId) (ht : P.underlying t = some (.slice e)) (hu : P.underlying u = some (.slice e')) (v x : Value) :
    (Builtin.append_ #[t, u] ty #[v, x]).run P w = (Builtin.append_ #[t, t] ty #[v, x]).run P w := by
  cases v <;> simp [Builtin.append_, run_underlying ht, run_underlying hu]
theorem wpList_append_two {P : Program} {w : World} {ops : Array Oper} {rest : List Oper} {o : Oper} {a : Act} {Q : Exit → Act → World → Prop} (hgd : o.guard = none) (s x : Operand) (t u : TypeId)
    (ho : o.op = .call { callee := .builtin .append, args := #[s, x], argTypes := #[t, u] })
    (base : Nat) (e e' : TypeId) (i : TypeInfo) (z : Value) (size bytes : Nat) (ht : P.underlying t = some (.slice e)) (hu : P.underlying u = some (.slice e')) (hi : P.info? e = some i) (hz : i.zero = some z)
    (hsize : i.size = size) (hby : i.bytes = bytes) (hzs : z.cells.size = size) (hsz : 0 < size)
    (v : Value) (n : Nat) (xs : List Value) (hs : a.eval s = v) (hown : w.ownsRow base e size v n xs)
    (ad : Addr) (m c : Nat) (news : List Value) (hx : a.eval x = .slice (some ad) m c) (hl : news.length = m * size) (hnews : ∀ j u, news[j]? = some u → w.cell? (ad.add j) = some u) (h1 : ∀ u ∈ news, u.oneCell' = true)
    (h63 : n + m ≤ maxLen) (hbytes : (n + m) * bytes ≤ 140737488355328) (hbase : base ≤ w.heap.size)
    (h : ∀ v' w', w'.ownsRow base e size v' (n + m) (xs ++ news) → w.grownBy w' v.ownBlock → (v' = .slice none 0 0 ↔ v = .slice none 0 0 ∧ m = 0) → wpList P ops Q rest (a.put o.dst v') w') : wpList P ops Q (o :: rest) a w := by
  refine wpList_plain hgd fun K hK => ?_
  obtain ⟨v', w', hr, h2, h3, h4⟩ := run_append_own (P := P) w base t o.type e i z size bytes ht hi hz hsize hby hzs hsz v n xs hown ad m c news hl hnews h1 h63 hbytes hbase
  rw [← run_append_two w t u o.type e e' ht hu] at hr
  unfold Oper.wp execOp
  simp only [ho, resolve, invoke, builtin, Sem.run_bind, Sem.run_pure, Result.andThen_ok, List.map_toArray, List.map_cons, List.map_nil, hs, hx, hr]
  exact hK _ _ (h v' w' h2 h3 h4)
theorem wpList_append_two_none {P : Program} {w : World} {ops : Array Oper} {rest : List Oper} {o : Oper} {a : Act} {Q : Exit → Act → World → Prop} (hgd : o.guard = none) (s x : Operand) (t u : TypeId)
    (ho : o.op = .call { callee := .builtin .append, args := #[s, x], argTypes := #[t, u] })
    (base : Nat) (e e' : TypeId) (i : TypeInfo) (size : Nat) (ht : P.underlying t = some (.slice e)) (hu : P.underlying u = some (.slice e')) (hi : P.info? e = some i)
    (v : Value) (n : Nat) (xs : List Value) (hs : a.eval s = v) (hown : w.ownsRow base e size v n xs) (hx : a.eval x = .slice none 0 0)
    (h : wpList P ops Q rest (a.put o.dst v) w) : wpList P ops Q (o :: rest) a w := by
  refine wpList_plain hgd fun K hK => ?_
  have hrun := run_append_owned_none (P := P) (w := w) base t o.type e i size ht hi v n xs hown
  rw [← run_append_two w t u o.type e e' ht hu] at hrun
  unfold Oper.wp execOp
  simp only [ho, resolve, invoke, builtin, Sem.run_bind, Sem.run_pure, Result.andThen_ok, List.map_toArray, List.map_cons, List.map_nil, hs, hx, hrun]
  exact hK _ _ h
theorem run_append_cap {P : Program} (w : World) (t ty e : TypeId) (ht : P.underlying t = some (.slice e)) (v : Value) (c : Nat) :
    (Builtin.append_ #[t, t] ty #[v, .slice none 0 c]).run P w = (Builtin.append_ #[t, t] ty #[v, .slice none 0 0]).run P w := by
  cases v <;> simp [Builtin.append_, run_underlying ht, Builtin.lenOf, Builtin.firstCells, Builtin.mayShare]
/-- The same whatever the source: nil, or a row. -/
theorem wpList_append_two_any {P : Program} {w : World} {ops : Array Oper} {rest : List Oper} {o : Oper} {a : Act} {Q : Exit → Act → World → Prop} (hgd : o.guard = none) (s x : Operand) (t u : TypeId)
    (ho : o.op = .call { callee := .builtin .append, args := #[s, x], argTypes := #[t, u] })
    (base : Nat) (e e' : TypeId) (i : TypeInfo) (z : Value) (size bytes : Nat) (ht : P.underlying t = some (.slice e)) (hu : P.underlying u = some (.slice e')) (hi : P.info? e = some i) (hz : i.zero = some z)
    (hsize : i.size = size) (hby : i.bytes = bytes) (hzs : z.cells.size = size) (hsz : 0 < size)
    (v : Value) (n : Nat) (xs : List Value) (hs : a.eval s = v) (hown : w.ownsRow base e size v n xs)
    (ad : Option Addr) (m c : Nat) (news : List Value) (hx : a.eval x = .slice ad m c) (hl : news.length = m * size) (hnews : ∀ j u, news[j]? = some u → ∃ b, ad = some b ∧ w.cell? (b.add j) = some u) (h1 : ∀ u ∈ news, u.oneCell' = true)
    (h63 : n + m ≤ maxLen) (hbytes : (n + m) * bytes ≤ 140737488355328) (hbase : base ≤ w.heap.size)
    (h : ∀ v' w', w'.ownsRow base e size v' (n + m) (xs ++ news) → w.grownBy w' v.ownBlock → wpList P ops Q rest (a.put o.dst v') w') : wpList P ops Q (o :: rest) a w := by
  rcases ad with _ | b
  · have hm : m * size = 0 := by
      rcases Nat.eq_zero_or_pos (m * size) with h | h
      · exact h
      · have hj : news[0]? = some (news[0]'(by omega)) := List.getElem?_eq_getElem (by omega)
        obtain ⟨b, hb, _⟩ := hnews 0 _ hj
        cases hb
    have hm0 : m = 0 := by
      rcases Nat.mul_eq_zero.1 hm with h | h
      · exact h
      · omega
    have hn : news = [] := List.eq_nil_of_length_eq_zero (by omega)
    subst hm0 hn
    refine wpList_plain hgd fun K hK => ?_
    have hrun := run_append_owned_none (P := P) (w := w) base t o.type e i size ht hi v n xs hown
    rw [← run_append_cap w t o.type e ht v c, ← run_append_two w t u o.type e e' ht hu] at hrun
    unfold Oper.wp execOp
    simp only [ho, resolve, invoke, builtin, Sem.run_bind, Sem.run_pure, Result.andThen_ok, List.map_toArray, List.map_cons, List.map_nil, hs, hx, hrun]
    exact hK _ _ (h v w (by rw [Nat.add_zero, List.append_nil]; exact hown) ⟨rfl, rfl, rfl, Nat.le_refl _, fun _ _ _ => rfl⟩)
  · exact wpList_append_two hgd s x t u ho base e e' i z size bytes ht hu hi hz hsize hby hzs hsz v n xs hs hown b m c news hx hl (fun j u hj => by
      obtain ⟨b', hb, hc⟩ := hnews j u hj
      cases hb
      exact hc) h1 h63 hbytes hbase (fun v' w' h2 h3 _ => h v' w' h2 h3)
end
section
open Go.RowKit
set_option linter.unusedSimpArgs false
set_option linter.unusedVariables false
theorem info_u8 : (Tryd.prog.info? 5).map (fun i => (i.zero, i.size, i.bytes)) = some (some (.int .u8 0), 1, 1) := by kernel_rfl
theorem one_u8 {d : Int} : ∀ u ∈ [Value.int .u8 d], u.oneCell' = true := fun u hu => by
  rcases List.mem_singleton.1 hu with rfl
  rfl
def OwnY (w : World) (base : Nat) (v : Value) (l : List Nat) : Prop := w.ownsRow base 5 1 v l.length (l.map fun d : Nat => Value.int .u8 (d : Int))
theorem OwnY.nil (w : World) (base : Nat) : OwnY w base (.slice none 0 0) [] := World.ownsRow_nil _ _ _ _
theorem ownY_lt {w : World} {base : Nat} {v : Value} {l : List Nat} (h : OwnY w base v l) : ∀ k, v.ownBlock = some k → base ≤ k := fun k hk => (World.ownsRow.lt h k hk).1
theorem ownY_app {w : World} {base : Nat} {v : Value} {l : List Nat} {d : Nat} {D : Int} (e : D = (d : Int)) (h : w.ownsRow base 5 1 v (l.length + 1) ((l.map fun d : Nat => Value.int .u8 (d : Int)) ++ [.int .u8 D])) : OwnY w base v (l ++ [d]) := by
  unfold OwnY
  rw [List.length_append, List.length_singleton, List.map_append, List.map_singleton, ← e]
  exact h
def OwnB (w : World) (base g cap n : Nat) (l : List Nat) : Prop := l.length = n ∧ w.ownsRow base 5 1 (.slice (some ⟨g, 0, none⟩) n cap) n (l.map fun d : Nat => Value.int .u8 (d : Int))
theorem ownB_of {w : World} {base : Nat} {v : Value} {l : List Nat} (h : OwnY w base v l) (h0 : l.length ≠ 0) : ∃ g cap, v = .slice (some ⟨g, 0, none⟩) l.length cap ∧ base ≤ g ∧ l.length ≤ cap ∧ OwnB w base g cap l.length l := by
  have h' := h
  rcases h.2 with ⟨rfl, h1⟩ | ⟨g, cap, cur, rfl, hb, hgg, hnc, _, _, htake⟩
  · exact absurd (by simpa using h1) (fun e : l = [] => h0 (by rw [e]; rfl))
  · exact ⟨g, cap, rfl, hb, hnc, rfl, h'⟩
theorem OwnB.toY {w : World} {base g cap n : Nat} {l : List Nat} (h : OwnB w base g cap n l) : OwnY w base (.slice (some ⟨g, 0, none⟩) n cap) l := by
  obtain ⟨rfl, h⟩ := h
  exact h
theorem OwnB.lt {w : World} {base g cap n : Nat} {l : List Nat} (h : OwnB w base g cap n l) : base ≤ g ∧ g < w.heap.size := World.ownsRow.lt h.2 g rfl
theorem OwnB.at {w : World} {base g cap n : Nat} {l : List Nat} (h : OwnB w base g cap n l) (i : Nat) (hi : i < n) : w.cell? ⟨g, i, none⟩ = some (.int .u8 (gi l i)) := by
  have e := World.ownsRow.cellAt h.2 i (by omega)
  have hl := h.1
  rw [e, List.getElem?_map, List.getElem?_eq_getElem (by omega)]
  show some _ = some _
  congr 2
  rw [List.getD_eq_getElem?_getD, List.getElem?_eq_getElem (by omega)]; rfl
theorem OwnB.free {w : World} {base g cap n : Nat} {l : List Nat} (h : OwnB w base g cap n l) (i : Nat) : w.frozen? ⟨g, i, none⟩ = false := World.ownsRow.frozenAt h.2 i
theorem OwnB.set {w : World} {base g cap n : Nat} {l : List Nat} (h : OwnB w base g cap n l) (K d : Nat) (v : Int) (hv : v = (d : Int)) : OwnB (w.setCell ⟨g, K, none⟩ (.int .u8 v)) base g cap n (l.set K d) := by
  refine ⟨by rw [List.length_set]; exact h.1, ?_⟩
  have s := (World.ownsRow.stored h.2 K (.int .u8 v)).1
  rw [List.map_set, ← hv]
  exact s
theorem OwnB.congr {w : World} {base g cap n : Nat} {l m : List Nat} (h : OwnB w base g cap n l) (e : l = m) : OwnB w base g cap n m := e ▸ h
theorem ownY_in {w : World} {base : Nat} {v : Value} {l : List Nat} {L : Nat} (h : OwnY w base v l) (hL : l.length = L) : ∃ ad c, v = .slice ad L c ∧ OwnY w base (.slice ad L c) l := by
  have h' := h
  rcases h.2 with ⟨rfl, h0⟩ | ⟨g, cap, cur, rfl, hb, hgg, hnc, _, _, htake⟩
  · have e : L = 0 := by omega
    subst e
    exact ⟨none, 0, rfl, h'⟩
  · rw [hL] at h'
    exact ⟨_, cap, by rw [hL], h'⟩
theorem ownY_on {w : World} {base : Nat} {ad : Option Addr} {c : Nat} {l : List Nat} {L : Nat} (h : OwnY w base (.slice ad L c) l) (hL : l.length = L) (h0 : L ≠ 0) : ∃ g, ad = some ⟨g, 0, none⟩ ∧ base ≤ g ∧ OwnB w base g c L l := by
  obtain ⟨g, cap, e, hg, hc, o⟩ := ownB_of h (by omega)
  injection e with e1 e2 e3
  subst e1 e3
  rw [hL] at o
  exact ⟨g, rfl, hg, o⟩
/-- The head of an owned row is owned. -/
theorem own_take {w : World} {base : Nat} {ad : Option Addr} {c : Nat} {l : List Nat} {L k : Nat} (h : OwnU w base (.slice ad L c) l) (hL : l.length = L) (hk : k ≤ L) : OwnU w base (.slice ad k c) (l.take k) := by
  have hl : (l.take k).length = k := by rw [List.length_take]; omega
  refine ⟨by rw [List.length_map, hl, Nat.mul_one], ?_⟩
  rcases h.2 with ⟨h1, h0⟩ | ⟨g, cap, cur, h1, hb, hgg, hnc, hcm, hcs, htake⟩
  · injection h1 with e1 e2 e3
    subst e1 e3
    exact .inl ⟨by rw [show k = 0 by omega], by omega⟩
  · injection h1 with e1 e2 e3
    subst e1 e3
    refine .inr ⟨g, c, cur, by rw [hl], hb, hgg, by omega, hcm, hcs, ?_⟩
    rw [hl, Nat.mul_one, List.map_take, ← htake, List.take_take, hL]
    congr 1
    omega
theorem grown_refl (w : World) (row : Option Nat) : w.grownBy w row := ⟨rfl, rfl, rfl, Nat.le_refl _, fun _ _ _ => rfl⟩
theorem dec_split (n : Nat) : Lib.decDigits n = (if n / 10 = 0 then [] else Lib.decDigits (n / 10)) ++ [UInt8.ofNat (48 + n % 10)] := by
  by_cases h : n < 10
  · rw [Lib.decDigits_one h, if_pos (by omega), Nat.mod_eq_of_lt h]; rfl
  · rw [decDigits_ten h, if_neg (by omega)]
/-- The letters that the reference has written, the last digit first. -/
def TextB (V N : Nat) (bs : List Nat) : Prop := (V = 0 ∧ N = 0 ∧ bs = []) ∨ (V ≠ 0 ∧ Lib.decDigits V = (if N = 0 then [] else Lib.decDigits N) ++ bs.reverse.map UInt8.ofNat)
theorem TextB.start (V : Nat) : TextB V V [] := by
  by_cases h : V = 0
  · exact Or.inl ⟨h, h, rfl⟩
  · exact Or.inr ⟨h, by rw [if_neg h]; simp⟩
theorem TextB.step {V N : Nat} {bs : List Nat} (H : TextB V N bs) (h : N ≠ 0) : TextB V (N / 10) (bs ++ [48 + N % 10]) := by
  rcases H with ⟨_, h2, _⟩ | ⟨h1, h2⟩
  · exact absurd h2 h
  · refine Or.inr ⟨h1, ?_⟩
    rw [h2, if_neg h, dec_split N]
    simp
theorem TextB.zero {V : Nat} {bs : List Nat} (H : TextB V 0 bs) (h : bs.length = 0) : V = 0 := by
  rcases H with ⟨h1, _, _⟩ | ⟨h1, h2⟩
  · exact h1
  · rw [if_pos rfl, List.eq_nil_of_length_eq_zero h] at h2
    have := Lib.decDigits_length V
    have := Lib.nDigits_pos V
    rw [h2] at *
    simp at *
    omega
theorem TextB.done {V : Nat} {bs : List Nat} (H : TextB V 0 bs) (h : bs.length ≠ 0) : bs.reverse.map UInt8.ofNat = Lib.decDigits V := by
  rcases H with ⟨_, _, h3⟩ | ⟨_, h2⟩
  · rw [h3] at h; exact absurd rfl h
  · rw [h2, if_pos rfl]; rfl
/-- A list whose first k and last k are exchanged. -/
def rvL (l : List Nat) (k : Nat) : List Nat := (List.range l.length).map fun t => if t < k ∨ l.length ≤ t + k then l.getD (l.length - 1 - t) 0 else l.getD t 0
theorem rvL_len (l : List Nat) (k : Nat) : (rvL l k).length = l.length := by unfold rvL; simp
theorem rvL_get (l : List Nat) (k t : Nat) : (rvL l k)[t]? = if t < l.length then some (if t < k ∨ l.length ≤ t + k then l.getD (l.length - 1 - t) 0 else l.getD t 0) else none := by
  unfold rvL
  rw [List.getElem?_map]
  by_cases h : t < l.length
  · rw [if_pos h, List.getElem?_range h]; rfl
  · rw [if_neg h, List.getElem?_eq_none (by simpa using h)]; rfl
theorem rvL_getD {l : List Nat} {k t : Nat} (h : t < l.length) : (rvL l k).getD t 0 = if t < k ∨ l.length ≤ t + k then l.getD (l.length - 1 - t) 0 else l.getD t 0 := by
  rw [List.getD_eq_getElem?_getD, rvL_get, if_pos h]; rfl
theorem rvL_zero (l : List Nat) : rvL l 0 = l := by
  refine List.ext_getElem? (fun i => ?_)
  rw [rvL_get]
  by_cases h : i < l.length
  · rw [if_pos h, if_neg (by omega), List.getD_eq_getElem?_getD, List.getElem?_eq_getElem h]; rfl
  · rw [if_neg h, List.getElem?_eq_none (by omega)]
theorem rvL_step {l : List Nat} {k j : Nat} (hk : k < j) (hj : j + k + 1 = l.length) : ((rvL l k).set k (l.getD j 0)).set j (l.getD k 0) = rvL l (k + 1) := by
  refine List.ext_getElem? (fun i => ?_)
  rw [rvL_get]
  by_cases h : i = j
  · subst h
    rw [List.getElem?_set_self (by rw [List.length_set, rvL_len]; omega), if_pos (by omega), if_pos (by omega), show l.length - 1 - i = k by omega]
  · rw [List.getElem?_set_ne (Ne.symm h)]
    by_cases h2 : i = k
    · subst h2
      rw [List.getElem?_set_self (by rw [rvL_len]; omega), if_pos (by omega), if_pos (by omega), show l.length - 1 - i = j by omega]
    · rw [List.getElem?_set_ne (Ne.symm h2), rvL_get]
      by_cases h3 : i < l.length
      · rw [if_pos h3, if_pos h3]
        by_cases h4 : i < k ∨ l.length ≤ i + k
        · rw [if_pos h4, if_pos (by omega)]
        · rw [if_neg h4, if_neg (by omega)]
      · rw [if_neg h3, if_neg h3]
theorem rvL_end {l : List Nat} {k : Nat} (h : l.length ≤ 2 * k + 1) : rvL l k = l.reverse := by
  refine List.ext_getElem? (fun i => ?_)
  rw [rvL_get]
  by_cases h3 : i < l.length
  · rw [if_pos h3, List.getElem?_reverse h3]
    have e : ∀ t, t < l.length → some (l.getD t 0) = l[t]? := fun t ht => by rw [List.getD_eq_getElem?_getD, List.getElem?_eq_getElem ht]; rfl
    by_cases h4 : i < k ∨ l.length ≤ i + k
    · rw [if_pos h4, e _ (by omega)]
    · rw [if_neg h4, e _ h3, show l.length - 1 - i = i by omega]
  · rw [if_neg h3, List.getElem?_eq_none (by simpa using h3)]
def lenV : Value → Nat
  | .slice _ n _ => n
  | _ => 0
theorem ten_bound {V N M : Nat} (h : 10 ^ M * N ≤ V) (h0 : N ≠ 0) (hV : V < 65536 ^ 256) : M ≤ 1239 := by
  obtain ⟨E, hE⟩ : ∃ E, E = 1240 := ⟨_, rfl⟩
  have h1 := ten_pow E hE
  have h2 : 10 ^ M * 1 ≤ 10 ^ M * N := Nat.mul_le_mul_left _ (by omega)
  have h3 : 10 ^ M < 10 ^ E := by omega
  have h4 := (Nat.pow_lt_pow_iff_right (show 1 < 10 by decide)).1 h3
  omega
theorem ten_step {V N M : Nat} (h : 10 ^ M * N ≤ V) : 10 ^ (M + 1) * (N / 10) ≤ V := by
  rw [Nat.pow_succ, Nat.mul_assoc]
  exact Nat.le_trans (Nat.mul_le_mul_left _ (by omega)) h
end
section
open Go.RowKit
set_option linter.unusedSimpArgs false
set_option linter.unusedVariables false
attribute [local irreducible] Fl.K
theorem own_kept {w w' : World} {base B1 g cc L : Nat} {l : List Nat} {row : Option Nat} (h : OwnU w base (.slice (some ⟨g, 0, none⟩) L cc) l) (o : Obj) (hg : (w.alloc o).grownBy w' row) (hrow : ∀ k, row = some k → B1 ≤ k) (hlt : g < B1) : OwnU w' base (.slice (some ⟨g, 0, none⟩) L cc) l :=
  World.ownsRow.kept (World.ownsRow.alloc h o) hg (Or.inr (fun e => by
    have := hrow g e.symm
    omega))
theorem ownY_other {w : World} {base g K : Nat} {v u : Value} {l : List Nat} (h : OwnY w base v l) (hg : g < base) : OwnY (w.setCell ⟨g, K, none⟩ u) base v l := ownsRow_setCell_below h hg u
set_option maxHeartbeats 6400000 in
set_option maxRecDepth 100000 in
theorem refText_yes (ad : Option Addr) (n c : Nat) (a : List Nat) (hn : a.length = n) (ha : isB a = true) (da : DigL a) (w : World) (hS : Sl .u16 w ad n (gi a)) :
    Calls Tryd.prog 19 #[.slice ad n c] w fun e w' => e = .returned (.string ⟨(Lib.decDigits (valL a)).toArray⟩) ∧ Below w.heap.size w w' := by
  obtain ⟨i0, hi, iz0, iz1, iz2⟩ := info_parts info_u16
  obtain ⟨j0, ji, jz0, jz1, jz2⟩ := info_parts info_u8
  obtain ⟨hn256, htop⟩ := isB_iff.1 ha
  rw [hn] at hn256
  obtain ⟨V, hV⟩ : ∃ V, valL a = V := ⟨_, rfl⟩
  have hdg : dg V = a := by rw [← hV]; exact dg_val ⟨da, htop⟩
  have hVb : V < 65536 ^ 256 := by
    rw [← hV]
    exact Nat.lt_of_lt_of_le (val_lt da) (Nat.pow_le_pow_right (by decide) (by omega))
  rw [hV]
  have HC : Hid (∀ j u, (a.map fun d : Nat => Value.int .u16 (d : Int))[j]? = some u → ∃ b, ad = some b ∧ b.block < w.heap.size ∧ w.cell? (b.add j) = some u) := Lib.hid (fun j u hj => by
    rw [List.getElem?_map] at hj
    obtain ⟨d, hd, rfl⟩ := Option.map_eq_some_iff.1 hj
    obtain ⟨hlt, he⟩ := List.getElem?_eq_some_iff.1 hd
    obtain ⟨b, hb, h1, h2⟩ := hS j (by omega)
    refine ⟨b, hb, h1, ?_⟩
    rw [h2]
    congr 2
    unfold gi
    rw [List.getD_eq_getElem?_getD, hd]; rfl)
  have HVB := Lib.hid hVb
  have HN := Lib.hid hn
  have HDG := Lib.hid hdg
  clear hS hn ha da hV hdg hVb htop
  go_enter Tryd.func19, Tryd.ntmps19
  go_wp2_with (at_builtin; refine wpList_append_two_any rfl _ _ 22 23 rfl w.heap.size 45 45 i0 (.int .u16 0) 1 2 Tryd.underlying22 Tryd.underlying23 hi iz0 iz1 iz2 rfl (by decide) _ 0 [] rfl (World.ownsRow_made w #[] 0 (Nat.le_refl _) (Nat.zero_le _) rfl) ad n c (a.map fun d : Nat => Value.int .u16 (d : Int)) rfl (by rw [List.length_map, HN.out, Nat.mul_one]) ?c1 ?c2 (by unfold maxLen; omega) (by omega) (by simp) ?_)
  case c1 =>
    intro j u hj
    obtain ⟨b, hb, h1, h2⟩ := HC.out j u hj
    refine ⟨b, hb, ?_⟩
    rw [World.cell?_alloc_old _ _ _ (by rw [show (b.add j).block = b.block by unfold Addr.add; split <;> rfl]; exact Nat.ne_of_lt h1), h2]
  case c2 =>
    intro u hu
    obtain ⟨d, _, rfl⟩ := List.mem_map.1 hu
    rfl
  intro v5 w5 hown5 hgrow5
  have hw5 : Below w.heap.size w w5 := Below.grown ((Below.refl _ _).alloc (Nat.le_refl _) _) hgrow5 (by simp) (fun k hk => by simp [Value.ownBlock] at hk; omega)
  have O5 : OwnU w5 w.heap.size v5 (dg V) := by
    try rw [Nat.zero_add] at hown5
    try rw [List.nil_append] at hown5
    unfold OwnU
    rw [HDG.out, HN.out]
    exact hown5
  have hln : (dg V).length = n := by rw [HDG.out, HN.out]
  obtain ⟨ad5, c5, rfl, hc5, o5⟩ := own_in O5 hln
  have HG := Lib.hid hln
  have HO := Lib.hid o5
  have hB5 := hw5.size
  obtain ⟨B1, hB1⟩ : ∃ B1, B1 = w5.heap.size := ⟨_, rfl⟩
  have HLT : Hid (∀ k, (Value.slice ad5 n c5).ownBlock = some k → k < B1) := Lib.hid (fun k hk => by rw [hB1]; exact (World.ownsRow.lt o5 k hk).2)
  have hB0 : w.heap.size ≤ B1 := by omega
  have hB2 : B1 ≤ w5.heap.size := by omega
  clear hown5 hgrow5 O5 o5 hln hB1 HDG HC HN
  go_wp2_with fail
  go_loopw [3, 4] (fun p q wr => ∃ (N L M cc bc : Nat) (ad bd : Option Addr) (bs : List Nat), p = .slice ad L cc ∧ q = .slice bd M bc ∧ OwnU wr w.heap.size (.slice ad L cc) (dg N) ∧ OwnY wr B1 (.slice bd M bc) bs ∧ Hid ((dg N).length = L) ∧ L ≤ 256 ∧ L ≤ cc ∧ Hid (bs.length = M) ∧ Hid (TextB V N bs) ∧ Hid (10 ^ M * N ≤ V) ∧ M ≤ 1240 ∧ Hid (∀ k, (Value.slice ad L cc).ownBlock = some k → k < B1) ∧ B1 ≤ wr.heap.size ∧ Below w.heap.size w wr) (fun _ q _ => 1241 - lenV q)
  case atStart => exact ⟨V, n, 0, c5, 0, ad5, none, [], rfl, rfl, HO.out, OwnY.nil _ _, HG, hn256, hc5, Lib.hid rfl, Lib.hid (TextB.start V), Lib.hid (by rw [Nat.pow_zero, Nat.one_mul]; exact Nat.le_refl _), by decide, HLT, hB2, hw5⟩
  case round =>
    clear HO hw5 HG HLT hB2 hc5 hB5
    obtain ⟨N, L, M, cc, bc, ad', bd, bs, rfl, rfl, hown, hby, HL, hL, hLc, HM, HT, HB, hM, HLT, hBr, hbw⟩ := hrel
    by_cases hL0 : L = 0
    · have hN0 : N = 0 := by
        rcases Nat.eq_zero_or_pos N with h | h
        · exact h
        · have := dg_len0 (N := N) (by omega)
          have := HL.out
          omega
      subst hN0 hL0
      by_cases hM0 : M = 0
      · have hV0 := HT.out.zero (by rw [HM.out]; exact hM0)
        have hans : (⟨#[48]⟩ : ByteArray) = ⟨(Lib.decDigits V).toArray⟩ := by rw [hV0, Lib.decDigits_one (by decide)]; rfl
        subst hM0
        have HA := Lib.hid hans
        clear hans hown hby hV0
        go_wp2_with fail
        go_ret
        exact ⟨by rw [← HA.out]; rfl, hbw⟩
      · obtain ⟨g2, rfl, hg2, oB⟩ := ownY_on hby HM.out hM0
        have HD := Lib.hid (HT.out.done (by rw [HM.out]; exact hM0))
        have M0 : 1 ≤ M := by omega
        have e0 : ((M : Int) == 0) = false := beq_f (by omega)
        have e2 : IntKind.i64.wrap ((M : Int).tdiv 2) = ((M / 2 : Nat) : Int) := by rw [Int.tdiv_eq_ediv_of_nonneg (by omega)]; rw [show (M : Int) / 2 = ((M / 2 : Nat) : Int) by omega]; exact IntWalk.i64_in _ (by omega)
        have e3 : (M : Int) / 2 = ((M / 2 : Nat) : Int) := by omega
        obtain ⟨H, hH⟩ : ∃ H, H = M / 2 := ⟨_, rfl⟩
        rw [← hH] at e2 e3
        have oB := Lib.hid oB
        have HL2 := Lib.hid HM.out
        have HH := Lib.hid hH
        have hH2 : H ≤ 620 := by omega
        clear hown hby HT HB hH hM0
        go_wp2_with fail
        go_loopw [7] (fun i wr => ∃ K : Nat, i = .int .i64 K ∧ K ≤ H ∧ OwnB wr B1 g2 bc M (rvL bs K) ∧ Below w.heap.size w wr) (fun i _ => H - (intOf i).toNat)
        case atStart => exact ⟨0, rfl, Nat.zero_le _, by rw [rvL_zero]; exact oB.out, hbw⟩
        case round =>
          clear oB hbw hBr
          obtain ⟨K, rfl, hK, oK, hbw⟩ := hrel
          have hzw := hbw.size
          by_cases hK4 : K < H
          · obtain ⟨J, hJ⟩ : ∃ J, J + K + 1 = M := ⟨M - 1 - K, by have := HH.out; omega⟩
            have hKJ : K < J := by have := HH.out; omega
            have ck := oK.at K (by omega)
            have cj := oK.at J (by omega)
            rw [show gi (rvL bs K) K = gi bs K by unfold gi; rw [rvL_getD (by have := HL2.out; omega), if_neg (by have := HL2.out; omega)]] at ck
            rw [show gi (rvL bs K) J = gi bs J by unfold gi; rw [rvL_getD (by have := HL2.out; omega), if_neg (by have := HL2.out; omega)]] at cj
            have fk := oK.free K
            have fj := oK.free J
            have rl := oK.lt.2
            have hS := Lib.hid (fun (W : World) (o : OwnB W B1 g2 bc M (rvL bs K)) => ((o.set K (bs.getD J 0) (gi bs J) rfl).set J (bs.getD K 0) (gi bs K) rfl).congr (rvL_step hKJ (by have := HL2.out; omega)))
            replace oK := Lib.hid oK
            have eJ : (M : Int) - 1 - (K : Int) = (J : Int) := by omega
            have eM : (M : Int) - 1 = (J : Int) + K := by omega
            have J1 : (J : Int) < M := by omega
            have J0 : (0 : Int) ≤ J := by omega
            have K1 : (K : Int) < M := by omega
            generalize gi bs K = u at *
            generalize gi bs J = y at *
            clear hzw hJ
            obtain ⟨wo, rfl⟩ : ∃ wo : World, wo = wr := ⟨_, rfl⟩
            go_wp2_with fail
            go_region
            all_goals
              go_wp2_with fail
              go_roundw
              case rel => exact ⟨K + 1, by go_num, by omega, hS.out _ oK.out, by repeat' (first | (with_reducible assumption) | (with_reducible exact Below.refl _ _) | (with_reducible refine below_drewN ?_ _) | (with_reducible refine Below.drew ?_) | (with_reducible refine Below.setCell ?_ ?_ _) | (with_reducible refine Below.alloc ?_ ?_ _) | omega | (simp; done) | (simp; omega))⟩
              case measure => first | (simp [intOf]; done) | (simp [intOf]; omega)
          · obtain rfl : K = H := by omega
            have hrv := rvL_end (l := bs) (k := K) (by have := HL2.out; have := HH.out; omega)
            rw [hrv] at oK
            have CV := run_convert_bytes_arg (P := Tryd.prog) wr 61 5 Tryd.underlying61 Tryd.underlying5 g2 0 M bc (bs.reverse.map fun d : Nat => (d : Int)) (by rw [List.length_map, List.length_reverse, HL2.out]) (fun i hi => by
              rw [Nat.zero_add, oK.at i hi]
              congr 2
              unfold gi
              rw [List.getD_eq_getElem?_getD, List.getD_eq_getElem?_getD, List.getElem?_map]
              cases bs.reverse[i]? <;> rfl) 9 Tryd.underlying9
            have hstr : strOfNums (bs.reverse.map fun d : Nat => (d : Int)) = ⟨(Lib.decDigits V).toArray⟩ := by
              unfold strOfNums
              rw [← HD.out, List.map_map]
              rfl
            rw [hstr] at CV
            clear oK hrv hstr
            go_wp2_with fail
            go_ret
            exact ⟨rfl, hbw⟩
    · obtain ⟨g, rfl, hg, oA⟩ := own_on hown HL.out hL0
      have hgB := HLT.out g rfl
      have hN0 : N ≠ 0 := by
        intro h
        have := HL.out
        rw [h, dg_zero] at this
        exact hL0 this.symm
      have hM9 : M ≤ 1239 := ten_bound HB.out hN0 HVB.out
      have HB2 := Lib.hid (ten_step HB.out)
      have HT2 := Lib.hid (HT.out.step hN0)
      obtain ⟨A, hA⟩ : ∃ A, dg N = A := ⟨_, rfl⟩
      have hvA : valL A = N := by rw [← hA]; exact val_dg N
      have dA : DigL A := by rw [← hA]; exact dig_dg N
      rw [hA] at oA
      have hAl : A.length = L := by rw [← hA]; exact HL.out
      have HAL := Lib.hid hAl
      have HVA := Lib.hid hvA
      have HDA := Lib.hid dA
      have HI := Lib.hid (fun K => gi_bd dA K)
      have oA := Lib.hid oA
      have oY := Lib.hid hby
      have L1 : 1 ≤ L := by omega
      have NP : Hid (N ≠ 0) := Lib.hid hN0
      have k2 : (L : Int) - 1 = ((L - 1 : Nat) : Int) := by omega
      clear hown hby hA hvA dA hAl HT HB hL0 hN0 HL k2
      go_wp2_with fail
      go_loopw [5, 6] (fun r i wr => ∃ (K R : Nat) (l : List Nat), K ≤ L ∧ i = .int .i64 ((K : Int) - 1) ∧ r = .int .i64 (R : Int) ∧ R ≤ 9 ∧ OwnA wr w.heap.size g cc L l ∧ Hid (DigL l) ∧ Hid (valL (l.drop K) * 10 + R = valL (A.drop K)) ∧ Hid (∀ t, t < K → l.getD t 0 = A.getD t 0) ∧ OwnY wr B1 (.slice bd M bc) bs ∧ B1 ≤ wr.heap.size ∧ Below w.heap.size w wr) (fun _ i _ => (intOf i + 1).toNat)
      case atStart => exact ⟨L, 0, A, Nat.le_refl _, rfl, rfl, by decide, oA.out, HDA, Lib.hid (by rw [List.drop_of_length_le (by rw [HAL.out]; exact Nat.le_refl _)]; simp [valL]), Lib.hid (fun _ _ => rfl), oY.out, hBr, hbw⟩
      case round =>
        clear oA oY hBr hbw
        obtain ⟨K', R, l, hK, rfl, rfl, hR, oK, HD, HE, HQ, oY, hBr, hbw⟩ := hrel
        have hzw := hbw.size
        rcases (show K' = 0 ∨ ∃ K, K' = K + 1 by cases K' with | zero => exact Or.inl rfl | succ K => exact Or.inr ⟨K, rfl⟩) with rfl | ⟨K, rfl⟩
        · have hE := HE.out
          rw [List.drop_zero, List.drop_zero, HVA.out] at hE
          have hq : valL l = N / 10 := by omega
          have hr : N % 10 = R := by omega
          rw [hr] at HT2
          have hll := oK.1
          have hlt := trim_take HD.out
          rw [hq, hll] at hlt
          obtain ⟨P, hP⟩ : ∃ P, (dg (N / 10)).length = P := ⟨_, rfl⟩
          rw [hP] at hlt
          have oU := oK.toU
          have oY := Lib.hid oY
          have oU := Lib.hid oU
          have eb : IntKind.u8.wrap (48 + (R : Int)) = 48 + (R : Int) := IntWalk.u8_in _ (by omega)
          have TR := Lib.hid (fun (W : World) (o : OwnU W w.heap.size (.slice (some ⟨g, 0, none⟩) L cc) l) => refTrim_any (some ⟨g, 0, none⟩) L cc l hll hLc (by omega) HD.out W (own_sl_in o hll))
          rw [hq, hP] at TR
          have OT := Lib.hid (fun (W : World) (o : OwnU W w.heap.size (.slice (some ⟨g, 0, none⟩) L cc) l) => own_take o hll hlt.1)
          rw [hlt.2] at OT
          have hP1 := hlt.1
          have HP := Lib.hid hP
          have hLM := hM9
          obtain ⟨wo, rfl⟩ : ∃ wo : World, wo = wr := ⟨_, rfl⟩
          have YB := Lib.hid (fun k hk => ownY_lt oY.out k hk)
          clear hE hq hr hll hlt hP oK HE HQ
          go_wp2_with (at_builtin; refine wpList_append_own _ rfl _ _ 61 rfl B1 5 j0 (.int .u8 0) 1 1 Tryd.underlying61 ji jz0 jz1 jz2 rfl (by decide) _ M _ rfl ((by have h := oY.out; unfold OwnY at h; rw [HM.out] at h; exact h : World.ownsRow _ _ _ _ _ M _).alloc _) ⟨wo.heap.size, 0, none⟩ 1 1 [.int .u8 (48 + (R : Int))] rfl rfl (cell_one_new _ _ _) one_u8 (by unfold maxLen; omega) (by omega) (by first | assumption | (simp; omega)) ?_; intro v6 w6 hown6 hgrow6 _)
          have hw6 : Below w.heap.size w w6 := Below.grown (hbw.alloc (by first | assumption | omega) _) hgrow6 (by first | assumption | (simp; omega)) (fun k hk => Nat.le_trans hB0 (YB.out k hk))
          have O6 : OwnY w6 B1 v6 (bs ++ [48 + R]) := ownY_app (d := 48 + R) (D := 48 + (R : Int)) (by omega) (by rw [HM.out]; exact hown6)
          have U6 := own_kept oU.out _ hgrow6 (fun k hk => YB.out k hk) hgB
          have hz6 : B1 ≤ w6.heap.size := by
            have := hgrow6.size
            simp at this
            omega
          have hlm : (bs ++ [48 + R]).length = M + 1 := by rw [List.length_append, List.length_singleton, HM.out]
          obtain ⟨bd6, bc6, rfl, Y6⟩ := ownY_in O6 hlm
          have HM6 := Lib.hid hlm
          have T6 := OT.out _ U6
          have TR6 := Lib.hid (TR.out _ U6)
          have HT6 := Lib.hid T6
          have HY6 := Lib.hid Y6
          clear hown6 hgrow6 O6 U6 T6 Y6 hlm TR OT oU oY
          go_wp2_with fail
          with_reducible refine (TR6.out).mono ?_
          rintro e w' ⟨rfl, rfl⟩
          go_wp2_with fail
          go_roundw
          case rel => exact ⟨N / 10, P, M + 1, cc, bc6, some ⟨g, 0, none⟩, bd6, bs ++ [48 + R], by first | rfl | (simp; done), by first | rfl | (simp; done), HT6.out, HY6.out, HP, by omega, by omega, HM6, HT2, HB2, by omega, Lib.hid (fun k hk => by simp [Value.ownBlock] at hk; omega), hz6, hw6⟩
          case measure => first | (simp [lenV]; done) | (simp [lenV]; omega)
        · have bx := HI.out K
          have ck := oK.at K (by omega)
          rw [show gi l K = gi A K by unfold gi; rw [HQ.out K (by omega)]] at ck
          have fr := oK.free K
          have rl := oK.lt.2
          obtain ⟨T, hT⟩ : ∃ T : Nat, T = R * 65536 + A.getD K 0 := ⟨_, rfl⟩
          have hll := oK.1
          have HE2 := Lib.hid (few_step HE.out (by have := HAL.out; omega) (by omega) hT (by decide))
          have hq : T / 10 < 65536 := by rw [hT]; exact few_digit (by omega) (HDA.out.getD K)
          have hr : T % 10 ≤ 9 := by omega
          have HD2 : Hid (DigL (l.set K (T / 10))) := Lib.hid (HD.out.set _ _ hq)
          have HQ2 : Hid (∀ t, t < K → (l.set K (T / 10)).getD t 0 = A.getD t 0) := Lib.hid (fun t ht => by
            rw [getD_set l K _ t (by omega), if_neg (by omega)]
            exact HQ.out t (by omega))
          obtain ⟨QI, hQI⟩ : ∃ QI : Int, ((T / 10 : Nat) : Int) = QI := ⟨_, rfl⟩
          obtain ⟨MI, hMI⟩ : ∃ MI : Int, ((T % 10 : Nat) : Int) = MI := ⟨_, rfl⟩
          obtain ⟨TI, hTI⟩ : ∃ TI : Int, (T : Int) = TI := ⟨_, rfl⟩
          have ST := Lib.hid (fun (W : World) (o : OwnA W w.heap.size g cc L l) => o.set K (T / 10) QI hQI.symm)
          have hTx : (R : Int) * 65536 + gi A K = TI := by rw [← hTI, hT]; unfold gi; omega
          generalize gi A K = x at *
          obtain ⟨x0, x1⟩ := bx
          have eS : IntKind.i64.wrap ((R : Int) * 65536) = (R : Int) * 65536 := IntWalk.i64_in _ (by omega)
          have eQ : TI / 10 = QI := by omega
          have eM : TI % 10 = MI := by omega
          have T0 : 0 ≤ TI := by omega
          have T1 : TI ≤ 655359 := by omega
          have Q0 : 0 ≤ QI := by omega
          have Q1 : QI < 65536 := by omega
          have e7 : IntKind.u16.wrap QI = QI := by rw [IntKind.wrap_u16]; omega
          have HMI := Lib.hid hMI.symm
          have k2 : ((K + 1 : Nat) : Int) - 1 = (K : Int) := by omega
          rw [k2]
          have k0 : (0 : Int) ≤ (K : Int) := by omega
          have k1 : (K : Int) < (L : Int) := by omega
          have OY := Lib.hid (ownY_other (g := g) (K := K) (u := .int .u16 QI) oY hgB)
          replace oK := Lib.hid oK
          have Hr := Lib.hid hr
          clear hT hTI hQI hMI k2 hq hr oY hll HE HD HQ
          go_wp2_with fail
          go_roundw
          case rel => exact ⟨K, T % 10, l.set K (T / 10), by omega, by first | rfl | (simp; done), by first | rw [HMI.out] | rw [eM, HMI.out] | rw [← eM] at HMI; exact congrArg _ HMI.out, Hr.out, ST.out _ oK.out, HD2, HE2, HQ2, OY.out, by simp; exact hBr, by repeat' (first | (with_reducible assumption) | (with_reducible exact Below.refl _ _) | (with_reducible refine below_drewN ?_ _) | (with_reducible refine Below.drew ?_) | (with_reducible refine Below.setCell ?_ ?_ _) | (with_reducible refine Below.alloc ?_ ?_ _) | omega | (simp; done) | (simp; omega))⟩
          case measure => first | (simp [intOf]; done) | (simp [intOf]; omega)
end
section
open Go.RowKit
set_option linter.unusedSimpArgs false
set_option linter.unusedVariables false
attribute [local irreducible] Fl.K
theorem same_nil2 (x : Option Addr) (cx cy : Nat) (w : World) (h : Sl .u16 w x 0 (gi [])) : Calls Tryd.prog 12 #[.slice x 0 cx, .slice none 0 cy] w fun e w' => e = .returned (.bool true) ∧ ∃ q, w' = w.drewN q := by
  have := same_any x none 0 cx 0 cy [] [] rfl rfl (by decide) (by decide) w h (Sl.none _ _ _ _)
  rw [decide_eq_true rfl] at this
  exact this
theorem parse_none (s : ByteArray) (hz : s.size ≤ 1400) (hO : parseO s.data.toList = none) (w : World) : Calls Tryd.prog 15 #[.string s] w fun e w' => ∃ x cx, e = .returned (.tuple #[.slice x 0 cx, .bool false]) ∧ Sl .u16 w' x 0 (gi []) ∧ Below w.heap.size w w' := (bigParse_any s hz w).mono (fun e w' h => by
  rw [hO] at h
  obtain ⟨x, cx, h1, h2, h3⟩ := h
  rw [show dg ((none : Option Nat).getD 0) = [] from dg_zero] at h1 h2
  exact ⟨x, cx, h1, h2, h3⟩)
theorem parse_some (s : ByteArray) (hz : s.size ≤ 1400) {P L : Nat} (hO : parseO s.data.toList = some P) (hL : (dg P).length = L) (w : World) : Calls Tryd.prog 15 #[.string s] w fun e w' => ∃ x cx, e = .returned (.tuple #[.slice x L cx, .bool true]) ∧ Sl .u16 w' x L (gi (dg P)) ∧ Below w.heap.size w w' := (bigParse_any s hz w).mono (fun e w' h => by
  rw [hO] at h
  obtain ⟨x, cx, h1, h2, h3⟩ := h
  rw [show (some P).getD 0 = P from rfl, hL] at h1 h2
  exact ⟨x, cx, h1, h2, h3⟩)
theorem refp_none (s : ByteArray) (hz : s.size ≤ 1400) (hO : parseO s.data.toList = none) (w : World) : Calls Tryd.prog 16 #[.string s] w fun e w' => ∃ x L cx, e = .returned (.tuple #[.slice x L cx, .bool false]) ∧ Below w.heap.size w w' := (refParse_any s hz w).mono (fun e w' h => by
  rw [hO] at h
  obtain ⟨x, L, cx, h1, h2, h3⟩ := h
  exact ⟨x, L, cx, h1, h3⟩)
theorem refp_some (s : ByteArray) (hz : s.size ≤ 1400) {P L : Nat} (hO : parseO s.data.toList = some P) (hL : (dg P).length = L) (w : World) : Calls Tryd.prog 16 #[.string s] w fun e w' => ∃ x cx, e = .returned (.tuple #[.slice x L cx, .bool true]) ∧ Sl .u16 w' x L (gi (dg P)) ∧ Below w.heap.size w w' := (refParse_any s hz w).mono (fun e w' h => by
  rw [hO] at h
  obtain ⟨x, L', cx, h1, h2, h3⟩ := h
  obtain ⟨h4, h5⟩ := h2 P rfl
  obtain rfl : L = L' := by rw [← hL, h4]
  exact ⟨x, cx, h1, h5, h3⟩)
theorem dec_len {V : Nat} (h : V < 65536 ^ 256) : (Lib.decDigits V).length ≤ 1240 := by
  obtain ⟨E, hE⟩ : ∃ E, E = 1240 := ⟨_, rfl⟩
  have h1 := ten_pow E hE
  rw [Lib.decDigits_length]
  have := nDigits_of_lt E V (by omega) (by omega)
  omega
theorem parseO_dec {V : Nat} (h : (dg V).length ≤ 256) : parseO (Lib.decDigits V) = some V := by
  have hnum : numl (Lib.decDigits V) := by
    refine ⟨decDigits_nil V, dec_isD V, ?_⟩
    by_cases h9 : V < 10
    · exact Or.inl (by rw [Lib.decDigits_one h9]; rfl)
    · obtain ⟨c, m, e, hc⟩ := decDigits_head V (by omega)
      right
      rw [e]
      intro h
      injection h with h
      exact hc h
  unfold parseO
  rw [dval_dec, if_pos ⟨hnum, h⟩]
theorem bigText_bad (ad : Option Addr) (n c : Nat) (a : List Nat) (hn : a.length = n) (hz : n ≤ 100000) (ha : isB a = false) (w : World) (hS : Sl .u16 w ad n (gi a)) :
    Calls Tryd.prog 14 #[.slice ad n c] w fun e w' => e = .returned (.string ⟨#[]⟩) ∧ w = w' := by
  have I1 := Lib.hid (ha ▸ bigIs_any ad n c a hn hz w hS)
  clear hS hn ha
  go_enter Tryd.func14, Tryd.ntmps14
  go_wp2_with fail
  with_reducible refine (I1.out).mono ?_
  rintro e w' ⟨rfl, rfl⟩
  go_wp2_with fail
  go_ret
  exact ⟨rfl, rfl⟩
theorem bigText_nil (ad : Option Addr) (c : Nat) (w : World) (hS : Sl .u16 w ad 0 (gi [])) :
    Calls Tryd.prog 14 #[.slice ad 0 c] w fun e w' => e = .returned (.string ⟨#[48]⟩) ∧ w = w' := by
  have I1 := Lib.hid ((show isB [] = true by decide) ▸ bigIs_any ad 0 c [] rfl (by decide) w hS)
  clear hS
  go_enter Tryd.func14, Tryd.ntmps14
  go_wp2_with fail
  with_reducible refine (I1.out).mono ?_
  rintro e w' ⟨rfl, rfl⟩
  go_wp2_with fail
  go_ret
  exact ⟨rfl, rfl⟩
theorem bigText_any (ad : Option Addr) (n c : Nat) (a : List Nat) (hn : a.length = n) (ha : isB a = true) (da : DigL a) (w : World) (htab : PowTab w) (hS : Sl .u16 w ad n (gi a)) :
    Calls Tryd.prog 14 #[.slice ad n c] w fun e w' => e = .returned (.string ⟨(Lib.decDigits (valL a)).toArray⟩) ∧ Below w.heap.size w w' := by
  by_cases hn0 : 1 ≤ n
  · exact bigText_yes ad n c a hn ha da hn0 w htab hS
  · obtain rfl : n = 0 := by omega
    obtain rfl : a = [] := List.eq_nil_of_length_eq_zero hn
    refine (bigText_nil ad c w hS).mono ?_
    rintro e w' ⟨rfl, rfl⟩
    exact ⟨by rw [show valL [] = 0 from rfl, Lib.decDigits_one (by decide)]; rfl, Below.refl _ _⟩
set_option maxHeartbeats 6400000 in
set_option maxRecDepth 100000 in
theorem bigTexts_long (ad : Option Addr) (n c : Nat) (s : ByteArray) (v : Int) (hz : n ≤ maxLen) (hs : s.size ≤ maxLen) (h : ¬ n ≤ 300 ∨ ¬ s.size ≤ 1400) (w : World) (htab : PowTab w) :
    Calls Tryd.prog 4 #[.slice ad n c, .string s, .int .u64 v] w fun e w' => e = .returned (.bool true) ∧ Below w.heap.size w w' := by
  have AW := Lib.hid (awake9 w htab)
  unfold maxLen at hz hs
  clear htab
  rcases (show (¬ n ≤ 300) ∨ (n ≤ 300 ∧ ¬ s.size ≤ 1400) by omega) with h | ⟨h, h2⟩
  all_goals
    go_enter Tryd.func4, Tryd.ntmps4
    go_wp2_with fail
    with_reducible refine (AW.out).mono ?_
    rintro e w1 ⟨rfl, hb1⟩
    have hw1 : Below w.heap.size w w1 := hb1
    go_wp2_with fail
    go_ret
    exact ⟨by first | rfl | (simp; done) | (simp [*]; done), hw1⟩
set_option maxHeartbeats 12800000 in
set_option maxRecDepth 100000 in
theorem bigTexts_bad (ad : Option Addr) (n c : Nat) (a : List Nat) (s : ByteArray) (v : Int) (v0 : 0 ≤ v) (v1 : v ≤ 18446744073709551615) (hn : a.length = n) (hz : n ≤ 300) (hs : s.size ≤ 1400) (ha : isB a = false) (w : World) (htab : PowTab w) (hS : Sl .u16 w ad n (gi a)) :
    Calls Tryd.prog 4 #[.slice ad n c, .string s, .int .u64 v] w fun e w' => e = .returned (.bool true) ∧ Below w.heap.size w w' := by
  have AW := Lib.hid (awake9 w htab)
  have HS := Lib.hid hS
  have HT := Lib.hid htab
  obtain ⟨U, hU⟩ : ∃ U, dg v.toNat = U := ⟨_, rfl⟩
  obtain ⟨LU, hLU⟩ : ∃ L, U.length = L := ⟨_, rfl⟩
  have hLU4 : LU ≤ 4 := by
    rw [← hLU, ← hU]
    refine dg_len_le ?_
    have : (65536 : Nat) ^ 4 = 18446744073709551616 := rfl
    omega
  have OB := Lib.hid (show ∀ w, Calls Tryd.prog 17 #[.int .u64 v] w fun e w' => ∃ x cx, e = .returned (.slice x LU cx) ∧ Sl .u16 w' x LU (gi U) ∧ Below w.heap.size w w' from fun w => (bigOf_any v.toNat v (by omega) v1 w).mono (fun e w' (h : RetU _ _ _ _) => memU_of (hU ▸ h) hLU))
  have OR := Lib.hid (show ∀ w, Calls Tryd.prog 18 #[.int .u64 v] w fun e w' => ∃ x cx, e = .returned (.slice x LU cx) ∧ Sl .u16 w' x LU (gi U) ∧ Below w.heap.size w w' from fun w => (refOf_any v.toNat v (by omega) v1 w).mono (fun e w' (h : RetU _ _ _ _) => memU_of (hU ▸ h) hLU))
  have SO := Lib.hid (fun x y cx cy w => same_self hLU (by omega) x y cx cy w)
  have RI := Lib.hid (fun w h => refIs_any ad n c a hn (by omega) w h)
  have s300 : (n : Int) ≤ 300 := by omega
  have s1400 : (s.size : Int) ≤ 1400 := by omega
  have TX := Lib.hid (fun w h => bigText_bad ad n c a hn (by omega) ha w h)
  rw [ha] at RI
  clear hS htab hn ha hU hLU
  cases hO : parseO s.data.toList with
  | none =>
    have PW := Lib.hid (fun w => parse_none s hs hO w)
    have RP := Lib.hid (fun w => refp_none s hs hO w)
    have SP := Lib.hid (fun x cx cy w h => same_nil2 x cx cy w h)
    clear hO
    go_enter Tryd.func4, Tryd.ntmps4
    go_wp2_with fail
    with_reducible refine (AW.out).mono ?_
    rintro e w1 ⟨rfl, hb1⟩
    have a_1 := Lib.hid (HS.out.beyond hb1)
    have hw1 : Below w.heap.size w w1 := hb1
    go_wp2_with fail
    with_reducible refine (TX.out _ a_1.out).mono ?_
    rintro e w' ⟨rfl, rfl⟩
    go_wp2_with fail
    with_reducible refine (PW.out _).mono ?_
    rintro e w2 ⟨x2, cx2, rfl, s2, hb2⟩
    have a_2 := Lib.hid (a_1.out.beyond hb2)
    clear a_1
    have c_2 := Lib.hid s2
    clear s2
    have hw2 : Below w.heap.size w w2 := Below.trans hw1 (hb2.mono hw1.size)
    clear hb2
    go_wp2_with fail
    with_reducible refine (RP.out _).mono ?_
    rintro e w3 ⟨x3, L3, cx3, rfl, hb3⟩
    have a_3 := Lib.hid (a_2.out.beyond hb3)
    clear a_2
    have c_3 := Lib.hid (c_2.out.beyond hb3)
    clear c_2
    have hw3 : Below w.heap.size w w3 := Below.trans hw2 (hb3.mono hw2.size)
    clear hb3
    go_wp2_with fail
    with_reducible refine (SP.out _ _ _ _ c_3.out).mono ?_
    rintro e w' ⟨rfl, q4, rfl⟩
    have a_4 := Lib.hid (a_3.out.drewN q4)
    clear a_3
    have hw4 := below_drewN hw3 q4
    generalize w3.drewN q4 = w4 at *
    go_wp2_with fail
    with_reducible refine (OB.out _).mono ?_
    rintro e w5 ⟨x5, cx5, rfl, s5, hb5⟩
    have a_5 := Lib.hid (a_4.out.beyond hb5)
    clear a_4
    have o_5 := Lib.hid s5
    clear s5
    have hw5 : Below w.heap.size w w5 := Below.trans hw4 (hb5.mono hw4.size)
    clear hb5
    go_wp2_with fail
    with_reducible refine (OR.out _).mono ?_
    rintro e w6 ⟨x6, cx6, rfl, s6, hb6⟩
    have a_6 := Lib.hid (a_5.out.beyond hb6)
    clear a_5
    have o_6 := Lib.hid (o_5.out.beyond hb6)
    clear o_5
    have p_6 := Lib.hid s6
    clear s6
    have hw6 : Below w.heap.size w w6 := Below.trans hw5 (hb6.mono hw5.size)
    clear hb6
    go_wp2_with fail
    with_reducible refine (SO.out _ _ _ _ _ o_6.out p_6.out).mono ?_
    rintro e w' ⟨rfl, q7, rfl⟩
    have a_7 := Lib.hid (a_6.out.drewN q7)
    clear a_6
    have hw7 := below_drewN hw6 q7
    generalize w6.drewN q7 = w7 at *
    go_wp2_with fail
    with_reducible refine (RI.out _ a_7.out).mono ?_
    rintro e w' ⟨rfl, rfl⟩
    go_wp2_with fail
    go_ret
    exact ⟨by first | rfl | (simp; done) | (simp [*]; done), hw7⟩
  | some P =>
    obtain ⟨LP, hLP⟩ : ∃ L, (dg P).length = L := ⟨_, rfl⟩
    have hLPb : LP ≤ 256 := by
      rw [← hLP]
      unfold parseO at hO
      split at hO
      · next h => cases hO; exact h.2
      · cases hO
    have PW := Lib.hid (fun w => parse_some s hs hO hLP w)
    have RP := Lib.hid (fun w => refp_some s hs hO hLP w)
    have SP := Lib.hid (fun x y cx cy w => same_self hLP (by omega) x y cx cy w)
    clear hO hLP
    go_enter Tryd.func4, Tryd.ntmps4
    go_wp2_with fail
    with_reducible refine (AW.out).mono ?_
    rintro e w1 ⟨rfl, hb1⟩
    have a_1 := Lib.hid (HS.out.beyond hb1)
    have hw1 : Below w.heap.size w w1 := hb1
    go_wp2_with fail
    with_reducible refine (TX.out _ a_1.out).mono ?_
    rintro e w' ⟨rfl, rfl⟩
    go_wp2_with fail
    with_reducible refine (PW.out _).mono ?_
    rintro e w2 ⟨x2, cx2, rfl, s2, hb2⟩
    have a_2 := Lib.hid (a_1.out.beyond hb2)
    clear a_1
    have c_2 := Lib.hid s2
    clear s2
    have hw2 : Below w.heap.size w w2 := Below.trans hw1 (hb2.mono hw1.size)
    clear hb2
    go_wp2_with fail
    with_reducible refine (RP.out _).mono ?_
    rintro e w3 ⟨x3, cx3, rfl, s3, hb3⟩
    have a_3 := Lib.hid (a_2.out.beyond hb3)
    clear a_2
    have c_3 := Lib.hid (c_2.out.beyond hb3)
    clear c_2
    have d_3 := Lib.hid s3
    clear s3
    have hw3 : Below w.heap.size w w3 := Below.trans hw2 (hb3.mono hw2.size)
    clear hb3
    go_wp2_with fail
    with_reducible refine (SP.out _ _ _ _ _ c_3.out d_3.out).mono ?_
    rintro e w' ⟨rfl, q4, rfl⟩
    have a_4 := Lib.hid (a_3.out.drewN q4)
    clear a_3
    have hw4 := below_drewN hw3 q4
    generalize w3.drewN q4 = w4 at *
    go_wp2_with fail
    with_reducible refine (OB.out _).mono ?_
    rintro e w5 ⟨x5, cx5, rfl, s5, hb5⟩
    have a_5 := Lib.hid (a_4.out.beyond hb5)
    clear a_4
    have o_5 := Lib.hid s5
    clear s5
    have hw5 : Below w.heap.size w w5 := Below.trans hw4 (hb5.mono hw4.size)
    clear hb5
    go_wp2_with fail
    with_reducible refine (OR.out _).mono ?_
    rintro e w6 ⟨x6, cx6, rfl, s6, hb6⟩
    have a_6 := Lib.hid (a_5.out.beyond hb6)
    clear a_5
    have o_6 := Lib.hid (o_5.out.beyond hb6)
    clear o_5
    have p_6 := Lib.hid s6
    clear s6
    have hw6 : Below w.heap.size w w6 := Below.trans hw5 (hb6.mono hw5.size)
    clear hb6
    go_wp2_with fail
    with_reducible refine (SO.out _ _ _ _ _ o_6.out p_6.out).mono ?_
    rintro e w' ⟨rfl, q7, rfl⟩
    have a_7 := Lib.hid (a_6.out.drewN q7)
    clear a_6
    have hw7 := below_drewN hw6 q7
    generalize w6.drewN q7 = w7 at *
    go_wp2_with fail
    with_reducible refine (RI.out _ a_7.out).mono ?_
    rintro e w' ⟨rfl, rfl⟩
    go_wp2_with fail
    go_ret
    exact ⟨by first | rfl | (simp; done) | (simp [*]; done), hw7⟩
set_option maxHeartbeats 12800000 in
set_option maxRecDepth 100000 in
theorem bigTexts_good (ad : Option Addr) (n c : Nat) (a : List Nat) (s : ByteArray) (v : Int) (v0 : 0 ≤ v) (v1 : v ≤ 18446744073709551615) (hn : a.length = n) (hs : s.size ≤ 1400) (ha : isB a = true) (da : DigL a) (w : World) (htab : PowTab w) (hS : Sl .u16 w ad n (gi a)) :
    Calls Tryd.prog 4 #[.slice ad n c, .string s, .int .u64 v] w fun e w' => e = .returned (.bool true) ∧ Below w.heap.size w w' := by
  have hz : n ≤ 256 := by have := (isB_iff.1 ha).1; omega
  have hca : Can a := ⟨da, (isB_iff.1 ha).2⟩
  have AW := Lib.hid (awake9 w htab)
  have HS := Lib.hid hS
  have HT := Lib.hid htab
  obtain ⟨U, hU⟩ : ∃ U, dg v.toNat = U := ⟨_, rfl⟩
  obtain ⟨LU, hLU⟩ : ∃ L, U.length = L := ⟨_, rfl⟩
  have hLU4 : LU ≤ 4 := by
    rw [← hLU, ← hU]
    refine dg_len_le ?_
    have : (65536 : Nat) ^ 4 = 18446744073709551616 := rfl
    omega
  have OB := Lib.hid (show ∀ w, Calls Tryd.prog 17 #[.int .u64 v] w fun e w' => ∃ x cx, e = .returned (.slice x LU cx) ∧ Sl .u16 w' x LU (gi U) ∧ Below w.heap.size w w' from fun w => (bigOf_any v.toNat v (by omega) v1 w).mono (fun e w' (h : RetU _ _ _ _) => memU_of (hU ▸ h) hLU))
  have OR := Lib.hid (show ∀ w, Calls Tryd.prog 18 #[.int .u64 v] w fun e w' => ∃ x cx, e = .returned (.slice x LU cx) ∧ Sl .u16 w' x LU (gi U) ∧ Below w.heap.size w w' from fun w => (refOf_any v.toNat v (by omega) v1 w).mono (fun e w' (h : RetU _ _ _ _) => memU_of (hU ▸ h) hLU))
  have SO := Lib.hid (fun x y cx cy w => same_self hLU (by omega) x y cx cy w)
  have RI := Lib.hid (fun w h => refIs_any ad n c a hn (by omega) w h)
  have s300 : (n : Int) ≤ 300 := by omega
  have s1400 : (s.size : Int) ≤ 1400 := by omega
  obtain ⟨O, hO⟩ : ∃ O : ByteArray, (⟨(Lib.decDigits (valL a)).toArray⟩ : ByteArray) = O := ⟨_, rfl⟩
  have hdg := dg_val hca
  have hOs : O.size ≤ 1400 := by
    have h1 := val_lt da
    have h2 : 65536 ^ a.length ≤ 65536 ^ 256 := Nat.pow_le_pow_right (by decide) (by omega)
    have h3 := dec_len (Nat.lt_of_lt_of_le h1 h2)
    have h4 : O.size = (Lib.decDigits (valL a)).length := by rw [← hO]; show (Lib.decDigits (valL a)).toArray.size = _; simp
    omega
  have hOp : parseO O.data.toList = some (valL a) := by
    rw [← hO]
    show parseO (Lib.decDigits (valL a)) = _
    exact parseO_dec (by rw [hdg]; omega)
  have TX := fun w t h => bigText_any ad n c a hn ha da w t h
  have RT := fun w h => refText_yes ad n c a hn ha da w h
  have PT := fun w => parse_some O hOs hOp (show (dg (valL a)).length = n by rw [hdg]; exact hn) w
  rw [hO] at TX RT
  rw [hdg] at PT
  have TX := Lib.hid TX
  have RT := Lib.hid RT
  have PT := Lib.hid PT
  have SA := Lib.hid (fun x y cx cy w => same_self hn (by omega) x y cx cy w)
  rw [ha] at RI
  clear hS htab hn ha da hca hU hLU hO hdg hOp hOs
  cases hO : parseO s.data.toList with
  | none =>
    have PW := Lib.hid (fun w => parse_none s hs hO w)
    have RP := Lib.hid (fun w => refp_none s hs hO w)
    have SP := Lib.hid (fun x cx cy w h => same_nil2 x cx cy w h)
    clear hO
    go_enter Tryd.func4, Tryd.ntmps4
    go_wp2_with fail
    with_reducible refine (AW.out).mono ?_
    rintro e w1 ⟨rfl, hb1⟩
    have a_1 := Lib.hid (HS.out.beyond hb1)
    have hw1 : Below w.heap.size w w1 := hb1
    go_wp2_with fail
    with_reducible refine (TX.out _ (tabIs_below HT.out hw1) a_1.out).mono ?_
    rintro e w2 ⟨rfl, hb2⟩
    have a_2 := Lib.hid (a_1.out.beyond hb2)
    clear a_1
    have hw2 : Below w.heap.size w w2 := Below.trans hw1 (hb2.mono hw1.size)
    clear hb2
    go_wp2_with fail
    with_reducible refine (PW.out _).mono ?_
    rintro e w3 ⟨x3, cx3, rfl, s3, hb3⟩
    have a_3 := Lib.hid (a_2.out.beyond hb3)
    clear a_2
    have c_3 := Lib.hid s3
    clear s3
    have hw3 : Below w.heap.size w w3 := Below.trans hw2 (hb3.mono hw2.size)
    clear hb3
    go_wp2_with fail
    with_reducible refine (RP.out _).mono ?_
    rintro e w4 ⟨x4, L4, cx4, rfl, hb4⟩
    have a_4 := Lib.hid (a_3.out.beyond hb4)
    clear a_3
    have c_4 := Lib.hid (c_3.out.beyond hb4)
    clear c_3
    have hw4 : Below w.heap.size w w4 := Below.trans hw3 (hb4.mono hw3.size)
    clear hb4
    go_wp2_with fail
    with_reducible refine (SP.out _ _ _ _ c_4.out).mono ?_
    rintro e w' ⟨rfl, q5, rfl⟩
    have a_5 := Lib.hid (a_4.out.drewN q5)
    clear a_4
    have hw5 := below_drewN hw4 q5
    generalize w4.drewN q5 = w5 at *
    go_wp2_with fail
    with_reducible refine (OB.out _).mono ?_
    rintro e w6 ⟨x6, cx6, rfl, s6, hb6⟩
    have a_6 := Lib.hid (a_5.out.beyond hb6)
    clear a_5
    have o_6 := Lib.hid s6
    clear s6
    have hw6 : Below w.heap.size w w6 := Below.trans hw5 (hb6.mono hw5.size)
    clear hb6
    go_wp2_with fail
    with_reducible refine (OR.out _).mono ?_
    rintro e w7 ⟨x7, cx7, rfl, s7, hb7⟩
    have a_7 := Lib.hid (a_6.out.beyond hb7)
    clear a_6
    have o_7 := Lib.hid (o_6.out.beyond hb7)
    clear o_6
    have p_7 := Lib.hid s7
    clear s7
    have hw7 : Below w.heap.size w w7 := Below.trans hw6 (hb7.mono hw6.size)
    clear hb7
    go_wp2_with fail
    with_reducible refine (SO.out _ _ _ _ _ o_7.out p_7.out).mono ?_
    rintro e w' ⟨rfl, q8, rfl⟩
    have a_8 := Lib.hid (a_7.out.drewN q8)
    clear a_7
    have hw8 := below_drewN hw7 q8
    generalize w7.drewN q8 = w8 at *
    go_wp2_with fail
    with_reducible refine (RI.out _ a_8.out).mono ?_
    rintro e w' ⟨rfl, rfl⟩
    go_wp2_with fail
    with_reducible refine (PT.out _).mono ?_
    rintro e w9 ⟨x9, cx9, rfl, s9, hb9⟩
    have a_9 := Lib.hid (a_8.out.beyond hb9)
    clear a_8
    have b_9 := Lib.hid s9
    clear s9
    have hw9 : Below w.heap.size w w9 := Below.trans hw8 (hb9.mono hw8.size)
    clear hb9
    go_wp2_with fail
    with_reducible refine (RT.out _ a_9.out).mono ?_
    rintro e w10 ⟨rfl, hb10⟩
    have a_10 := Lib.hid (a_9.out.beyond hb10)
    clear a_9
    have b_10 := Lib.hid (b_9.out.beyond hb10)
    clear b_9
    have hw10 : Below w.heap.size w w10 := Below.trans hw9 (hb10.mono hw9.size)
    clear hb10
    go_wp2_with fail
    with_reducible refine (SA.out _ _ _ _ _ a_10.out b_10.out).mono ?_
    rintro e w' ⟨rfl, q11, rfl⟩
    have a_11 := Lib.hid (a_10.out.drewN q11)
    clear a_10
    have hw11 := below_drewN hw10 q11
    generalize w10.drewN q11 = w11 at *
    go_wp2_with fail
    go_ret
    exact ⟨by first | rfl | (simp; done) | (simp [*]; done), hw11⟩
  | some P =>
    obtain ⟨LP, hLP⟩ : ∃ L, (dg P).length = L := ⟨_, rfl⟩
    have hLPb : LP ≤ 256 := by
      rw [← hLP]
      unfold parseO at hO
      split at hO
      · next h => cases hO; exact h.2
      · cases hO
    have PW := Lib.hid (fun w => parse_some s hs hO hLP w)
    have RP := Lib.hid (fun w => refp_some s hs hO hLP w)
    have SP := Lib.hid (fun x y cx cy w => same_self hLP (by omega) x y cx cy w)
    clear hO hLP
    go_enter Tryd.func4, Tryd.ntmps4
    go_wp2_with fail
    with_reducible refine (AW.out).mono ?_
    rintro e w1 ⟨rfl, hb1⟩
    have a_1 := Lib.hid (HS.out.beyond hb1)
    have hw1 : Below w.heap.size w w1 := hb1
    go_wp2_with fail
    with_reducible refine (TX.out _ (tabIs_below HT.out hw1) a_1.out).mono ?_
    rintro e w2 ⟨rfl, hb2⟩
    have a_2 := Lib.hid (a_1.out.beyond hb2)
    clear a_1
    have hw2 : Below w.heap.size w w2 := Below.trans hw1 (hb2.mono hw1.size)
    clear hb2
    go_wp2_with fail
    with_reducible refine (PW.out _).mono ?_
    rintro e w3 ⟨x3, cx3, rfl, s3, hb3⟩
    have a_3 := Lib.hid (a_2.out.beyond hb3)
    clear a_2
    have c_3 := Lib.hid s3
    clear s3
    have hw3 : Below w.heap.size w w3 := Below.trans hw2 (hb3.mono hw2.size)
    clear hb3
    go_wp2_with fail
    with_reducible refine (RP.out _).mono ?_
    rintro e w4 ⟨x4, cx4, rfl, s4, hb4⟩
    have a_4 := Lib.hid (a_3.out.beyond hb4)
    clear a_3
    have c_4 := Lib.hid (c_3.out.beyond hb4)
    clear c_3
    have d_4 := Lib.hid s4
    clear s4
    have hw4 : Below w.heap.size w w4 := Below.trans hw3 (hb4.mono hw3.size)
    clear hb4
    go_wp2_with fail
    with_reducible refine (SP.out _ _ _ _ _ c_4.out d_4.out).mono ?_
    rintro e w' ⟨rfl, q5, rfl⟩
    have a_5 := Lib.hid (a_4.out.drewN q5)
    clear a_4
    have hw5 := below_drewN hw4 q5
    generalize w4.drewN q5 = w5 at *
    go_wp2_with fail
    with_reducible refine (OB.out _).mono ?_
    rintro e w6 ⟨x6, cx6, rfl, s6, hb6⟩
    have a_6 := Lib.hid (a_5.out.beyond hb6)
    clear a_5
    have o_6 := Lib.hid s6
    clear s6
    have hw6 : Below w.heap.size w w6 := Below.trans hw5 (hb6.mono hw5.size)
    clear hb6
    go_wp2_with fail
    with_reducible refine (OR.out _).mono ?_
    rintro e w7 ⟨x7, cx7, rfl, s7, hb7⟩
    have a_7 := Lib.hid (a_6.out.beyond hb7)
    clear a_6
    have o_7 := Lib.hid (o_6.out.beyond hb7)
    clear o_6
    have p_7 := Lib.hid s7
    clear s7
    have hw7 : Below w.heap.size w w7 := Below.trans hw6 (hb7.mono hw6.size)
    clear hb7
    go_wp2_with fail
    with_reducible refine (SO.out _ _ _ _ _ o_7.out p_7.out).mono ?_
    rintro e w' ⟨rfl, q8, rfl⟩
    have a_8 := Lib.hid (a_7.out.drewN q8)
    clear a_7
    have hw8 := below_drewN hw7 q8
    generalize w7.drewN q8 = w8 at *
    go_wp2_with fail
    with_reducible refine (RI.out _ a_8.out).mono ?_
    rintro e w' ⟨rfl, rfl⟩
    go_wp2_with fail
    with_reducible refine (PT.out _).mono ?_
    rintro e w9 ⟨x9, cx9, rfl, s9, hb9⟩
    have a_9 := Lib.hid (a_8.out.beyond hb9)
    clear a_8
    have b_9 := Lib.hid s9
    clear s9
    have hw9 : Below w.heap.size w w9 := Below.trans hw8 (hb9.mono hw8.size)
    clear hb9
    go_wp2_with fail
    with_reducible refine (RT.out _ a_9.out).mono ?_
    rintro e w10 ⟨rfl, hb10⟩
    have a_10 := Lib.hid (a_9.out.beyond hb10)
    clear a_9
    have b_10 := Lib.hid (b_9.out.beyond hb10)
    clear b_9
    have hw10 : Below w.heap.size w w10 := Below.trans hw9 (hb10.mono hw9.size)
    clear hb10
    go_wp2_with fail
    with_reducible refine (SA.out _ _ _ _ _ a_10.out b_10.out).mono ?_
    rintro e w' ⟨rfl, q11, rfl⟩
    have a_11 := Lib.hid (a_10.out.drewN q11)
    clear a_10
    have hw11 := below_drewN hw10 q11
    generalize w10.drewN q11 = w11 at *
    go_wp2_with fail
    go_ret
    exact ⟨by first | rfl | (simp; done) | (simp [*]; done), hw11⟩
theorem bigTexts_walk (ad : Option Addr) (n c : Nat) (f : Nat → Int) (s : ByteArray) (v : Int) (w : World) (hS : Sl .u16 w ad n f) (hn : n ≤ maxLen) (hf : DgF n f) (hs : s.size ≤ maxLen) (v0 : 0 ≤ v) (v1 : v ≤ 18446744073709551615) (htab : PowTab w) :
    Calls Tryd.prog 4 #[.slice ad n c, .string s, .int .u64 v] w fun e w' => e = .returned (.bool true) ∧ Below w.heap.size w w' := by
  by_cases h : n ≤ 300
  · by_cases h2 : s.size ≤ 1400
    · cases ha : isB (lst n f) with
      | false => exact bigTexts_bad ad n c _ s v v0 v1 (lst_len n f) h h2 ha w htab (lst_sl hf hS)
      | true => exact bigTexts_good ad n c _ s v v0 v1 (lst_len n f) h2 ha (lst_dig hf) w htab (lst_sl hf hS)
    · exact bigTexts_long ad n c s v hn hs (Or.inr h2) w htab
  · exact bigTexts_long ad n c s v hn hs (Or.inl h) w htab
end
end Go.Proofs.YthlpimdpgmknoaaDoor
