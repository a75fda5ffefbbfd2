/- whole.Lexeme: its contract is lexOf. Condition: texts of at most 900 bytes. -/
import Derived.Test.YtdfpknomhambcaaDoorW1
import Derived.Outline
namespace Go.Proofs.YtdfpknomhambcaaDoor
open Go.RowKit
set_option linter.unusedSimpArgs false
set_option linter.unusedVariables false

/-- whole.is, whole.digits at a place that is told as a number of Go's. -/
theorem is_at (s : ByteArray) (hs : s.size ≤ 1000) (k : Nat) (K : Int) (hK : K = k) (c d : Int) (b : Bool) (hb : hdIs (s.data.toList.drop k) c d = b) (w : World) :
    Calls Tryd.prog 35 #[.string s, .int .i64 K, .int .u8 c, .int .u8 d] w fun e w' => e = .returned (.bool b) ∧ w = w' := by
  subst hK hb; exact is_any s hs k c d w
theorem digits_at (s : ByteArray) (hs : s.size ≤ 1000) (k : Nat) (hk : k ≤ s.size) (K R : Int) (hK : K = k) (hR : R = ((k + runL (s.data.toList.drop k) : Nat) : Int)) (w : World) :
    Calls Tryd.prog 36 #[.string s, .int .i64 K] w fun e w' => e = .returned (.int .i64 R) ∧ w = w' := by
  subst hK hR; exact digits_any s hs k hk w
theorem ret_li {a b : Int} (h : a = b) : Ending.returned (.int .i64 a) = .returned (.int .i64 b) := by rw [h]
theorem hd_lt {L : List UInt8} {n k : Nat} {c d : Int} (hl : L.length = n) (h : hdIs (L.drop k) c d = true) : k < n := by
  rcases Nat.lt_or_ge k n with h1 | h1
  · exact h1
  · rw [hdIs_end (by omega)] at h; cases h
set_option maxHeartbeats 8000000 in
set_option maxRecDepth 100000 in
theorem lexeme_any (s : ByteArray) (hs : s.size ≤ 1000) (w : World) :
    Calls Tryd.prog 21 #[.string s] w fun e w' => e = .returned (.int .i64 (lexOf s.data.toList)) ∧ w = w' := by
  obtain ⟨L, hLe⟩ : ∃ L, s.data.toList = L := ⟨_, rfl⟩
  have HL := Lib.hid (show L.length = s.size by rw [← hLe]; simp)
  have is_at := is_at s hs
  have digits_at := digits_at s hs
  rw [hLe] at is_at digits_at ⊢
  replace hLe := hide hLe
  go_enter Tryd.func21, Tryd.ntmps21
  cases hm : hdIs (L.drop 0) 45 45
  · have I := hide (fun w => is_at 0 0 rfl 45 45 false hm w)
    have HX : Hid (lexOf L = lexInt (L.drop 0)) := hide (by rw [List.drop_zero] at hm ⊢; exact lexOf_plain hm)
    clear hm
    go_wp2_with fail
    with_reducible refine (unhide I _).mono ?_
    rintro e w' ⟨rfl, rfl⟩
    have hk : 0 ≤ s.size := by omega
    obtain ⟨d, hd⟩ : ∃ x : Nat, 0 + runL (L.drop 0) = x := ⟨_, rfl⟩
    have DD := hide (fun w => digits_at 0 hk 0 ((d : Nat) : Int) rfl (by rw [hd]) w)
    have hle : d ≤ s.size := by have := runL_le (L.drop 0); rw [List.length_drop, HL.out] at this; omega
    have hge : 0 ≤ d := by omega
    have ED := hide hd
    clear hd
    by_cases hz : d = 0
    · have hb : (((d : Nat) : Int) == (0 : Int)) = true := beq_t (by omega)
      have HV : Hid ((0 : Int) = lexOf L) := hide (by
        have hr : runL (L.drop 0) = 0 := by have := unhide ED; omega
        rw [unhide HX]
        unfold lexInt
        rw [if_pos (Or.inl hr)])
      go_wp2_with fail
      with_reducible refine (unhide DD _).mono ?_
      rintro e w' ⟨rfl, rfl⟩
      go_wp2_with fail
      go_ret
      exact ⟨ret_li (unhide HV), rfl⟩
    · have hb : (((d : Nat) : Int) == (0 : Int)) = false := beq_f (by omega)
      have hlt0 : 0 < s.size := by omega
      have h48 := hdIs_at (l := L) (i := 0) (by rw [HL.out]; exact hlt0) 48 48
      rw [Bool.or_self, show L[0]'(by rw [HL.out]; exact hlt0) = s[0]'hlt0 from by have := unhide hLe; subst this; rfl] at h48
      by_cases hbad : (((s[0]'hlt0).toNat : Int) == 48) = true ∧ 1 < d
      · obtain ⟨b1, b2⟩ := hbad
        have HV : Hid ((0 : Int) = lexOf L) := hide (by
          rw [unhide HX]
          unfold lexInt
          rw [if_pos (Or.inr ⟨by rw [h48]; exact b1, by have := unhide ED; omega⟩)])
        have b3 : (1 : Int) < (d : Int) := by omega
        clear h48
        go_wp2_with fail
        with_reducible refine (unhide DD _).mono ?_
        rintro e w' ⟨rfl, rfl⟩
        go_wp2_with fail
        go_ret
        exact ⟨ret_li (unhide HV), rfl⟩
      · replace HX : Hid (lexOf L = lexFrac (L.drop d)) := hide (by
          rw [unhide HX]
          unfold lexInt
          have e := unhide ED
          rw [if_neg, List.drop_drop, e]
          rintro (h | ⟨h1, h2⟩)
          · omega
          · rw [h48] at h1
            exact hbad ⟨h1, by omega⟩)
        have hcase : (((s[0]'hlt0).toNat : Int) == 48) = false ∨ ((((s[0]'hlt0).toNat : Int) == 48) = true ∧ ¬ (1 : Int) < (d : Int)) := by
          rcases Bool.eq_false_or_eq_true (((s[0]'hlt0).toNat : Int) == 48) with hx | hx
          · exact Or.inr ⟨hx, fun h => hbad ⟨hx, by omega⟩⟩
          · exact Or.inl hx
        clear h48 hbad
        rcases hcase with b1 | ⟨b1, b2⟩
        all_goals
          go_wp2_with fail
          with_reducible refine (unhide DD _).mono ?_
          rintro e w' ⟨rfl, rfl⟩
          clear hz
          cases hf : hdIs (L.drop d) 46 46
          · have I := hide (fun w => is_at d ((d : Int)) (by omega) 46 46 false hf w)
            replace HX : Hid (lexOf L = lexExp 1 (L.drop d)) := hide (by rw [unhide HX]; unfold lexFrac; rw [hf]; rfl)
            clear hf
            go_wp2_with fail
            with_reducible refine (unhide I _).mono ?_
            rintro e w' ⟨rfl, rfl⟩
            cases he : hdIs (L.drop d) 101 69
            · have hx := hide he
              have I := hide (fun w => is_at d ((d : Int)) (by omega) 101 69 false he w)
              replace HX : Hid (lexOf L = lexEnd 1 (L.drop d)) := hide (by rw [unhide HX]; unfold lexExp; rw [he]; rfl)
              clear he
              go_wp2_with fail
              with_reducible refine (unhide I _).mono ?_
              rintro e w' ⟨rfl, rfl⟩
              by_cases he : d = s.size
              · have hb : (((d : Nat) : Int) != (s.size : Int)) = false := bne_f (by omega)
                have HV : Hid ((1 : Int) = lexOf L) := hide (by
                  rw [unhide HX]
                  unfold lexEnd
                  rw [if_pos (by rw [List.drop_eq_nil_of_le (by rw [HL.out]; omega)])])
                clear he
                go_wp2_with fail
                go_ret
                exact ⟨ret_li (unhide HV), rfl⟩
              · have hb : (((d : Nat) : Int) != (s.size : Int)) = true := bne_t (by omega)
                have HV : Hid ((0 : Int) = lexOf L) := hide (by
                  rw [unhide HX]
                  unfold lexEnd
                  rw [if_neg (fun h => he (by have := List.drop_eq_nil_iff.1 h; rw [HL.out] at this; omega))])
                go_wp2_with fail
                go_ret
                exact ⟨ret_li (unhide HV), rfl⟩
            · have I := hide (fun w => is_at d ((d : Int)) (by omega) 101 69 true he w)
              have hlt : d < s.size := hd_lt HL.out he
              have ht : Hid ((L.drop d).tail = L.drop (d + 1)) := hide (by rw [List.tail_drop])
              cases hsg : hdIs (L.drop (d + 1)) 43 45
              · have J := hide (fun w => is_at (d + 1) ((d : Int) + 1) (by omega) 43 45 false hsg w)
                replace HX : Hid (lexOf L = lexDig 2 (L.drop (d + 1)) (lexEnd 2)) := hide (by
                  rw [unhide HX]; unfold lexExp; rw [he, unhide ht, hsg]; rfl)
                clear he hsg
                go_wp2_with fail
                with_reducible refine (unhide I _).mono ?_
                rintro e w' ⟨rfl, rfl⟩
                go_wp2_with fail
                with_reducible refine (unhide J _).mono ?_
                rintro e w' ⟨rfl, rfl⟩
                have hk : d + 1 ≤ s.size := by omega
                obtain ⟨q, hq⟩ : ∃ x : Nat, d + 1 + runL (L.drop (d + 1)) = x := ⟨_, rfl⟩
                have Dq := hide (fun w => digits_at (d + 1) hk ((d : Int) + 1) ((q : Nat) : Int) (by omega) (by rw [hq]) w)
                have hleq : q ≤ s.size := by have := runL_le (L.drop (d + 1)); rw [List.length_drop, HL.out] at this; omega
                have Eq := hide hq
                clear hq
                by_cases hz : q = d + 1
                · have hb : (((q : Nat) : Int) == ((d : Int) + 1 : Int)) = true := beq_t (by omega)
                  have HV : Hid ((0 : Int) = lexOf L) := hide (by
                    have hr : runL (L.drop (d + 1)) = 0 := by have := unhide Eq; omega
                    rw [unhide HX]
                    unfold lexDig
                    rw [if_pos hr])
                  go_wp2_with fail
                  with_reducible refine (unhide Dq _).mono ?_
                  rintro e w' ⟨rfl, rfl⟩
                  go_wp2_with fail
                  go_ret
                  exact ⟨ret_li (unhide HV), rfl⟩
                · have hb : (((q : Nat) : Int) == ((d : Int) + 1 : Int)) = false := beq_f (by omega)
                  have HR : Hid (runL (L.drop (d + 1)) ≠ 0 ∧ (L.drop (d + 1)).drop (runL (L.drop (d + 1))) = L.drop q) := hide (by
                    have := unhide Eq
                    exact ⟨by omega, by rw [List.drop_drop, this]⟩)
                  go_wp2_with fail
                  with_reducible refine (unhide Dq _).mono ?_
                  rintro e w' ⟨rfl, rfl⟩
                  replace HX : Hid (lexOf L = lexEnd 2 (L.drop q)) := hide (by
                    rw [unhide HX]
                    unfold lexDig
                    rw [if_neg (unhide HR).1, (unhide HR).2])
                  by_cases he : q = s.size
                  · have hb : (((q : Nat) : Int) != (s.size : Int)) = false := bne_f (by omega)
                    have HV : Hid ((2 : Int) = lexOf L) := hide (by
                      rw [unhide HX]
                      unfold lexEnd
                      rw [if_pos (by rw [List.drop_eq_nil_of_le (by rw [HL.out]; omega)])])
                    clear he
                    go_wp2_with fail
                    go_ret
                    exact ⟨ret_li (unhide HV), rfl⟩
                  · have hb : (((q : Nat) : Int) != (s.size : Int)) = true := bne_t (by omega)
                    have HV : Hid ((0 : Int) = lexOf L) := hide (by
                      rw [unhide HX]
                      unfold lexEnd
                      rw [if_neg (fun h => he (by have := List.drop_eq_nil_iff.1 h; rw [HL.out] at this; omega))])
                    go_wp2_with fail
                    go_ret
                    exact ⟨ret_li (unhide HV), rfl⟩
              · have J := hide (fun w => is_at (d + 1) ((d : Int) + 1) (by omega) 43 45 true hsg w)
                have hlt2 : d + 1 < s.size := hd_lt HL.out hsg
                have ht2 : Hid ((L.drop (d + 1)).tail = L.drop (d + 1 + 1)) := hide (by rw [List.tail_drop])
                replace HX : Hid (lexOf L = lexDig 2 (L.drop (d + 1 + 1)) (lexEnd 2)) := hide (by
                  rw [unhide HX]; unfold lexExp; rw [he, unhide ht, hsg, if_pos rfl, if_pos rfl, unhide ht2])
                clear he hsg
                go_wp2_with fail
                with_reducible refine (unhide I _).mono ?_
                rintro e w' ⟨rfl, rfl⟩
                go_wp2_with fail
                with_reducible refine (unhide J _).mono ?_
                rintro e w' ⟨rfl, rfl⟩
                have hk : d + 1 + 1 ≤ s.size := by omega
                obtain ⟨q, hq⟩ : ∃ x : Nat, d + 1 + 1 + runL (L.drop (d + 1 + 1)) = x := ⟨_, rfl⟩
                have Dq := hide (fun w => digits_at (d + 1 + 1) hk ((d : Int) + 1 + 1) ((q : Nat) : Int) (by omega) (by rw [hq]) w)
                have hleq : q ≤ s.size := by have := runL_le (L.drop (d + 1 + 1)); rw [List.length_drop, HL.out] at this; omega
                have Eq := hide hq
                clear hq
                by_cases hz : q = d + 1 + 1
                · have hb : (((q : Nat) : Int) == ((d : Int) + 1 + 1 : Int)) = true := beq_t (by omega)
                  have HV : Hid ((0 : Int) = lexOf L) := hide (by
                    have hr : runL (L.drop (d + 1 + 1)) = 0 := by have := unhide Eq; omega
                    rw [unhide HX]
                    unfold lexDig
                    rw [if_pos hr])
                  go_wp2_with fail
                  with_reducible refine (unhide Dq _).mono ?_
                  rintro e w' ⟨rfl, rfl⟩
                  go_wp2_with fail
                  go_ret
                  exact ⟨ret_li (unhide HV), rfl⟩
                · have hb : (((q : Nat) : Int) == ((d : Int) + 1 + 1 : Int)) = false := beq_f (by omega)
                  have HR : Hid (runL (L.drop (d + 1 + 1)) ≠ 0 ∧ (L.drop (d + 1 + 1)).drop (runL (L.drop (d + 1 + 1))) = L.drop q) := hide (by
                    have := unhide Eq
                    exact ⟨by omega, by rw [List.drop_drop, this]⟩)
                  go_wp2_with fail
                  with_reducible refine (unhide Dq _).mono ?_
                  rintro e w' ⟨rfl, rfl⟩
                  replace HX : Hid (lexOf L = lexEnd 2 (L.drop q)) := hide (by
                    rw [unhide HX]
                    unfold lexDig
                    rw [if_neg (unhide HR).1, (unhide HR).2])
                  by_cases he : q = s.size
                  · have hb : (((q : Nat) : Int) != (s.size : Int)) = false := bne_f (by omega)
                    have HV : Hid ((2 : Int) = lexOf L) := hide (by
                      rw [unhide HX]
                      unfold lexEnd
                      rw [if_pos (by rw [List.drop_eq_nil_of_le (by rw [HL.out]; omega)])])
                    clear he
                    go_wp2_with fail
                    go_ret
                    exact ⟨ret_li (unhide HV), rfl⟩
                  · have hb : (((q : Nat) : Int) != (s.size : Int)) = true := bne_t (by omega)
                    have HV : Hid ((0 : Int) = lexOf L) := hide (by
                      rw [unhide HX]
                      unfold lexEnd
                      rw [if_neg (fun h => he (by have := List.drop_eq_nil_iff.1 h; rw [HL.out] at this; omega))])
                    go_wp2_with fail
                    go_ret
                    exact ⟨ret_li (unhide HV), rfl⟩
          · have I := hide (fun w => is_at d ((d : Int)) (by omega) 46 46 true hf w)
            have hlt : d < s.size := hd_lt HL.out hf
            replace HX : Hid (lexOf L = lexDig 2 (L.drop (d + 1)) (lexExp 2)) := hide (by
              rw [unhide HX]; unfold lexFrac; rw [hf, if_pos rfl, List.tail_drop])
            clear hf
            have hk : d + 1 ≤ s.size := by omega
            go_wp2_with fail
            with_reducible refine (unhide I _).mono ?_
            rintro e w' ⟨rfl, rfl⟩
            obtain ⟨f, hf⟩ : ∃ x : Nat, d + 1 + runL (L.drop (d + 1)) = x := ⟨_, rfl⟩
            have Df := hide (fun w => digits_at (d + 1) hk ((d : Int) + 1) ((f : Nat) : Int) (by omega) (by rw [hf]) w)
            have hlef : f ≤ s.size := by have := runL_le (L.drop (d + 1)); rw [List.length_drop, HL.out] at this; omega
            have Ef := hide hf
            clear hf
            by_cases hz : f = d + 1
            · have hb : (((f : Nat) : Int) == ((d : Int) + 1 : Int)) = true := beq_t (by omega)
              have HV : Hid ((0 : Int) = lexOf L) := hide (by
                have hr : runL (L.drop (d + 1)) = 0 := by have := unhide Ef; omega
                rw [unhide HX]
                unfold lexDig
                rw [if_pos hr])
              go_wp2_with fail
              with_reducible refine (unhide Df _).mono ?_
              rintro e w' ⟨rfl, rfl⟩
              go_wp2_with fail
              go_ret
              exact ⟨ret_li (unhide HV), rfl⟩
            · have hb : (((f : Nat) : Int) == ((d : Int) + 1 : Int)) = false := beq_f (by omega)
              have HR : Hid (runL (L.drop (d + 1)) ≠ 0 ∧ (L.drop (d + 1)).drop (runL (L.drop (d + 1))) = L.drop f) := hide (by
                have := unhide Ef
                exact ⟨by omega, by rw [List.drop_drop, this]⟩)
              go_wp2_with fail
              with_reducible refine (unhide Df _).mono ?_
              rintro e w' ⟨rfl, rfl⟩
              replace HX : Hid (lexOf L = lexExp 2 (L.drop f)) := hide (by
                rw [unhide HX]
                unfold lexDig
                rw [if_neg (unhide HR).1, (unhide HR).2])
              clear hz
              cases he : hdIs (L.drop f) 101 69
              · have hx := hide he
                have I := hide (fun w => is_at f ((f : Int)) (by omega) 101 69 false he w)
                replace HX : Hid (lexOf L = lexEnd 2 (L.drop f)) := hide (by rw [unhide HX]; unfold lexExp; rw [he]; rfl)
                clear he
                go_wp2_with fail
                with_reducible refine (unhide I _).mono ?_
                rintro e w' ⟨rfl, rfl⟩
                by_cases he : f = s.size
                · have hb : (((f : Nat) : Int) != (s.size : Int)) = false := bne_f (by omega)
                  have HV : Hid ((2 : Int) = lexOf L) := hide (by
                    rw [unhide HX]
                    unfold lexEnd
                    rw [if_pos (by rw [List.drop_eq_nil_of_le (by rw [HL.out]; omega)])])
                  clear he
                  go_wp2_with fail
                  go_ret
                  exact ⟨ret_li (unhide HV), rfl⟩
                · have hb : (((f : Nat) : Int) != (s.size : Int)) = true := bne_t (by omega)
                  have HV : Hid ((0 : Int) = lexOf L) := hide (by
                    rw [unhide HX]
                    unfold lexEnd
                    rw [if_neg (fun h => he (by have := List.drop_eq_nil_iff.1 h; rw [HL.out] at this; omega))])
                  go_wp2_with fail
                  go_ret
                  exact ⟨ret_li (unhide HV), rfl⟩
              · have I := hide (fun w => is_at f ((f : Int)) (by omega) 101 69 true he w)
                have hlt : f < s.size := hd_lt HL.out he
                have ht : Hid ((L.drop f).tail = L.drop (f + 1)) := hide (by rw [List.tail_drop])
                cases hsg : hdIs (L.drop (f + 1)) 43 45
                · have J := hide (fun w => is_at (f + 1) ((f : Int) + 1) (by omega) 43 45 false hsg w)
                  replace HX : Hid (lexOf L = lexDig 2 (L.drop (f + 1)) (lexEnd 2)) := hide (by
                    rw [unhide HX]; unfold lexExp; rw [he, unhide ht, hsg]; rfl)
                  clear he hsg
                  go_wp2_with fail
                  with_reducible refine (unhide I _).mono ?_
                  rintro e w' ⟨rfl, rfl⟩
                  go_wp2_with fail
                  with_reducible refine (unhide J _).mono ?_
                  rintro e w' ⟨rfl, rfl⟩
                  have hk : f + 1 ≤ s.size := by omega
                  obtain ⟨q, hq⟩ : ∃ x : Nat, f + 1 + runL (L.drop (f + 1)) = x := ⟨_, rfl⟩
                  have Dq := hide (fun w => digits_at (f + 1) hk ((f : Int) + 1) ((q : Nat) : Int) (by omega) (by rw [hq]) w)
                  have hleq : q ≤ s.size := by have := runL_le (L.drop (f + 1)); rw [List.length_drop, HL.out] at this; omega
                  have Eq := hide hq
                  clear hq
                  by_cases hz : q = f + 1
                  · have hb : (((q : Nat) : Int) == ((f : Int) + 1 : Int)) = true := beq_t (by omega)
                    have HV : Hid ((0 : Int) = lexOf L) := hide (by
                      have hr : runL (L.drop (f + 1)) = 0 := by have := unhide Eq; omega
                      rw [unhide HX]
                      unfold lexDig
                      rw [if_pos hr])
                    go_wp2_with fail
                    with_reducible refine (unhide Dq _).mono ?_
                    rintro e w' ⟨rfl, rfl⟩
                    go_wp2_with fail
                    go_ret
                    exact ⟨ret_li (unhide HV), rfl⟩
                  · have hb : (((q : Nat) : Int) == ((f : Int) + 1 : Int)) = false := beq_f (by omega)
                    have HR : Hid (runL (L.drop (f + 1)) ≠ 0 ∧ (L.drop (f + 1)).drop (runL (L.drop (f + 1))) = L.drop q) := hide (by
                      have := unhide Eq
                      exact ⟨by omega, by rw [List.drop_drop, this]⟩)
                    go_wp2_with fail
                    with_reducible refine (unhide Dq _).mono ?_
                    rintro e w' ⟨rfl, rfl⟩
                    replace HX : Hid (lexOf L = lexEnd 2 (L.drop q)) := hide (by
                      rw [unhide HX]
                      unfold lexDig
                      rw [if_neg (unhide HR).1, (unhide HR).2])
                    by_cases he : q = s.size
                    · have hb : (((q : Nat) : Int) != (s.size : Int)) = false := bne_f (by omega)
                      have HV : Hid ((2 : Int) = lexOf L) := hide (by
                        rw [unhide HX]
                        unfold lexEnd
                        rw [if_pos (by rw [List.drop_eq_nil_of_le (by rw [HL.out]; omega)])])
                      clear he
                      go_wp2_with fail
                      go_ret
                      exact ⟨ret_li (unhide HV), rfl⟩
                    · have hb : (((q : Nat) : Int) != (s.size : Int)) = true := bne_t (by omega)
                      have HV : Hid ((0 : Int) = lexOf L) := hide (by
                        rw [unhide HX]
                        unfold lexEnd
                        rw [if_neg (fun h => he (by have := List.drop_eq_nil_iff.1 h; rw [HL.out] at this; omega))])
                      go_wp2_with fail
                      go_ret
                      exact ⟨ret_li (unhide HV), rfl⟩
                · have J := hide (fun w => is_at (f + 1) ((f : Int) + 1) (by omega) 43 45 true hsg w)
                  have hlt2 : f + 1 < s.size := hd_lt HL.out hsg
                  have ht2 : Hid ((L.drop (f + 1)).tail = L.drop (f + 1 + 1)) := hide (by rw [List.tail_drop])
                  replace HX : Hid (lexOf L = lexDig 2 (L.drop (f + 1 + 1)) (lexEnd 2)) := hide (by
                    rw [unhide HX]; unfold lexExp; rw [he, unhide ht, hsg, if_pos rfl, if_pos rfl, unhide ht2])
                  clear he hsg
                  go_wp2_with fail
                  with_reducible refine (unhide I _).mono ?_
                  rintro e w' ⟨rfl, rfl⟩
                  go_wp2_with fail
                  with_reducible refine (unhide J _).mono ?_
                  rintro e w' ⟨rfl, rfl⟩
                  have hk : f + 1 + 1 ≤ s.size := by omega
                  obtain ⟨q, hq⟩ : ∃ x : Nat, f + 1 + 1 + runL (L.drop (f + 1 + 1)) = x := ⟨_, rfl⟩
                  have Dq := hide (fun w => digits_at (f + 1 + 1) hk ((f : Int) + 1 + 1) ((q : Nat) : Int) (by omega) (by rw [hq]) w)
                  have hleq : q ≤ s.size := by have := runL_le (L.drop (f + 1 + 1)); rw [List.length_drop, HL.out] at this; omega
                  have Eq := hide hq
                  clear hq
                  by_cases hz : q = f + 1 + 1
                  · have hb : (((q : Nat) : Int) == ((f : Int) + 1 + 1 : Int)) = true := beq_t (by omega)
                    have HV : Hid ((0 : Int) = lexOf L) := hide (by
                      have hr : runL (L.drop (f + 1 + 1)) = 0 := by have := unhide Eq; omega
                      rw [unhide HX]
                      unfold lexDig
                      rw [if_pos hr])
                    go_wp2_with fail
                    with_reducible refine (unhide Dq _).mono ?_
                    rintro e w' ⟨rfl, rfl⟩
                    go_wp2_with fail
                    go_ret
                    exact ⟨ret_li (unhide HV), rfl⟩
                  · have hb : (((q : Nat) : Int) == ((f : Int) + 1 + 1 : Int)) = false := beq_f (by omega)
                    have HR : Hid (runL (L.drop (f + 1 + 1)) ≠ 0 ∧ (L.drop (f + 1 + 1)).drop (runL (L.drop (f + 1 + 1))) = L.drop q) := hide (by
                      have := unhide Eq
                      exact ⟨by omega, by rw [List.drop_drop, this]⟩)
                    go_wp2_with fail
                    with_reducible refine (unhide Dq _).mono ?_
                    rintro e w' ⟨rfl, rfl⟩
                    replace HX : Hid (lexOf L = lexEnd 2 (L.drop q)) := hide (by
                      rw [unhide HX]
                      unfold lexDig
                      rw [if_neg (unhide HR).1, (unhide HR).2])
                    by_cases he : q = s.size
                    · have hb : (((q : Nat) : Int) != (s.size : Int)) = false := bne_f (by omega)
                      have HV : Hid ((2 : Int) = lexOf L) := hide (by
                        rw [unhide HX]
                        unfold lexEnd
                        rw [if_pos (by rw [List.drop_eq_nil_of_le (by rw [HL.out]; omega)])])
                      clear he
                      go_wp2_with fail
                      go_ret
                      exact ⟨ret_li (unhide HV), rfl⟩
                    · have hb : (((q : Nat) : Int) != (s.size : Int)) = true := bne_t (by omega)
                      have HV : Hid ((0 : Int) = lexOf L) := hide (by
                        rw [unhide HX]
                        unfold lexEnd
                        rw [if_neg (fun h => he (by have := List.drop_eq_nil_iff.1 h; rw [HL.out] at this; omega))])
                      go_wp2_with fail
                      go_ret
                      exact ⟨ret_li (unhide HV), rfl⟩
  · have I := hide (fun w => is_at 0 0 rfl 45 45 true hm w)
    have hlt : 0 < s.size := hd_lt HL.out hm
    have HX : Hid (lexOf L = lexInt (L.drop 1)) := hide (by
      rw [List.drop_zero] at hm
      obtain ⟨m, rfl, e⟩ := lexOf_sign hm
      exact e)
    clear hm
    go_wp2_with fail
    with_reducible refine (unhide I _).mono ?_
    rintro e w' ⟨rfl, rfl⟩
    have hk : 1 ≤ s.size := by omega
    obtain ⟨d, hd⟩ : ∃ x : Nat, 1 + runL (L.drop 1) = x := ⟨_, rfl⟩
    have DD := hide (fun w => digits_at 1 hk 1 ((d : Nat) : Int) rfl (by rw [hd]) w)
    have hle : d ≤ s.size := by have := runL_le (L.drop 1); rw [List.length_drop, HL.out] at this; omega
    have hge : 1 ≤ d := by omega
    have ED := hide hd
    clear hd
    by_cases hz : d = 1
    · have hb : (((d : Nat) : Int) == (1 : Int)) = true := beq_t (by omega)
      have HV : Hid ((0 : Int) = lexOf L) := hide (by
        have hr : runL (L.drop 1) = 0 := by have := unhide ED; omega
        rw [unhide HX]
        unfold lexInt
        rw [if_pos (Or.inl hr)])
      go_wp2_with fail
      with_reducible refine (unhide DD _).mono ?_
      rintro e w' ⟨rfl, rfl⟩
      go_wp2_with fail
      go_ret
      exact ⟨ret_li (unhide HV), rfl⟩
    · have hb : (((d : Nat) : Int) == (1 : Int)) = false := beq_f (by omega)
      have hlt0 : 1 < s.size := by omega
      have h48 := hdIs_at (l := L) (i := 1) (by rw [HL.out]; exact hlt0) 48 48
      rw [Bool.or_self, show L[1]'(by rw [HL.out]; exact hlt0) = s[1]'hlt0 from by have := unhide hLe; subst this; rfl] at h48
      by_cases hbad : (((s[1]'hlt0).toNat : Int) == 48) = true ∧ 2 < d
      · obtain ⟨b1, b2⟩ := hbad
        have HV : Hid ((0 : Int) = lexOf L) := hide (by
          rw [unhide HX]
          unfold lexInt
          rw [if_pos (Or.inr ⟨by rw [h48]; exact b1, by have := unhide ED; omega⟩)])
        have b3 : (2 : Int) < (d : Int) := by omega
        clear h48
        go_wp2_with fail
        with_reducible refine (unhide DD _).mono ?_
        rintro e w' ⟨rfl, rfl⟩
        go_wp2_with fail
        go_ret
        exact ⟨ret_li (unhide HV), rfl⟩
      · replace HX : Hid (lexOf L = lexFrac (L.drop d)) := hide (by
          rw [unhide HX]
          unfold lexInt
          have e := unhide ED
          rw [if_neg, List.drop_drop, e]
          rintro (h | ⟨h1, h2⟩)
          · omega
          · rw [h48] at h1
            exact hbad ⟨h1, by omega⟩)
        have hcase : (((s[1]'hlt0).toNat : Int) == 48) = false ∨ ((((s[1]'hlt0).toNat : Int) == 48) = true ∧ ¬ (2 : Int) < (d : Int)) := by
          rcases Bool.eq_false_or_eq_true (((s[1]'hlt0).toNat : Int) == 48) with hx | hx
          · exact Or.inr ⟨hx, fun h => hbad ⟨hx, by omega⟩⟩
          · exact Or.inl hx
        clear h48 hbad
        rcases hcase with b1 | ⟨b1, b2⟩
        all_goals
          go_wp2_with fail
          with_reducible refine (unhide DD _).mono ?_
          rintro e w' ⟨rfl, rfl⟩
          clear hz
          cases hf : hdIs (L.drop d) 46 46
          · have I := hide (fun w => is_at d ((d : Int)) (by omega) 46 46 false hf w)
            replace HX : Hid (lexOf L = lexExp 1 (L.drop d)) := hide (by rw [unhide HX]; unfold lexFrac; rw [hf]; rfl)
            clear hf
            go_wp2_with fail
            with_reducible refine (unhide I _).mono ?_
            rintro e w' ⟨rfl, rfl⟩
            cases he : hdIs (L.drop d) 101 69
            · have hx := hide he
              have I := hide (fun w => is_at d ((d : Int)) (by omega) 101 69 false he w)
              replace HX : Hid (lexOf L = lexEnd 1 (L.drop d)) := hide (by rw [unhide HX]; unfold lexExp; rw [he]; rfl)
              clear he
              go_wp2_with fail
              with_reducible refine (unhide I _).mono ?_
              rintro e w' ⟨rfl, rfl⟩
              by_cases he : d = s.size
              · have hb : (((d : Nat) : Int) != (s.size : Int)) = false := bne_f (by omega)
                have HV : Hid ((1 : Int) = lexOf L) := hide (by
                  rw [unhide HX]
                  unfold lexEnd
                  rw [if_pos (by rw [List.drop_eq_nil_of_le (by rw [HL.out]; omega)])])
                clear he
                go_wp2_with fail
                go_ret
                exact ⟨ret_li (unhide HV), rfl⟩
              · have hb : (((d : Nat) : Int) != (s.size : Int)) = true := bne_t (by omega)
                have HV : Hid ((0 : Int) = lexOf L) := hide (by
                  rw [unhide HX]
                  unfold lexEnd
                  rw [if_neg (fun h => he (by have := List.drop_eq_nil_iff.1 h; rw [HL.out] at this; omega))])
                go_wp2_with fail
                go_ret
                exact ⟨ret_li (unhide HV), rfl⟩
            · have I := hide (fun w => is_at d ((d : Int)) (by omega) 101 69 true he w)
              have hlt : d < s.size := hd_lt HL.out he
              have ht : Hid ((L.drop d).tail = L.drop (d + 1)) := hide (by rw [List.tail_drop])
              cases hsg : hdIs (L.drop (d + 1)) 43 45
              · have J := hide (fun w => is_at (d + 1) ((d : Int) + 1) (by omega) 43 45 false hsg w)
                replace HX : Hid (lexOf L = lexDig 2 (L.drop (d + 1)) (lexEnd 2)) := hide (by
                  rw [unhide HX]; unfold lexExp; rw [he, unhide ht, hsg]; rfl)
                clear he hsg
                go_wp2_with fail
                with_reducible refine (unhide I _).mono ?_
                rintro e w' ⟨rfl, rfl⟩
                go_wp2_with fail
                with_reducible refine (unhide J _).mono ?_
                rintro e w' ⟨rfl, rfl⟩
                have hk : d + 1 ≤ s.size := by omega
                obtain ⟨q, hq⟩ : ∃ x : Nat, d + 1 + runL (L.drop (d + 1)) = x := ⟨_, rfl⟩
                have Dq := hide (fun w => digits_at (d + 1) hk ((d : Int) + 1) ((q : Nat) : Int) (by omega) (by rw [hq]) w)
                have hleq : q ≤ s.size := by have := runL_le (L.drop (d + 1)); rw [List.length_drop, HL.out] at this; omega
                have Eq := hide hq
                clear hq
                by_cases hz : q = d + 1
                · have hb : (((q : Nat) : Int) == ((d : Int) + 1 : Int)) = true := beq_t (by omega)
                  have HV : Hid ((0 : Int) = lexOf L) := hide (by
                    have hr : runL (L.drop (d + 1)) = 0 := by have := unhide Eq; omega
                    rw [unhide HX]
                    unfold lexDig
                    rw [if_pos hr])
                  go_wp2_with fail
                  with_reducible refine (unhide Dq _).mono ?_
                  rintro e w' ⟨rfl, rfl⟩
                  go_wp2_with fail
                  go_ret
                  exact ⟨ret_li (unhide HV), rfl⟩
                · have hb : (((q : Nat) : Int) == ((d : Int) + 1 : Int)) = false := beq_f (by omega)
                  have HR : Hid (runL (L.drop (d + 1)) ≠ 0 ∧ (L.drop (d + 1)).drop (runL (L.drop (d + 1))) = L.drop q) := hide (by
                    have := unhide Eq
                    exact ⟨by omega, by rw [List.drop_drop, this]⟩)
                  go_wp2_with fail
                  with_reducible refine (unhide Dq _).mono ?_
                  rintro e w' ⟨rfl, rfl⟩
                  replace HX : Hid (lexOf L = lexEnd 2 (L.drop q)) := hide (by
                    rw [unhide HX]
                    unfold lexDig
                    rw [if_neg (unhide HR).1, (unhide HR).2])
                  by_cases he : q = s.size
                  · have hb : (((q : Nat) : Int) != (s.size : Int)) = false := bne_f (by omega)
                    have HV : Hid ((2 : Int) = lexOf L) := hide (by
                      rw [unhide HX]
                      unfold lexEnd
                      rw [if_pos (by rw [List.drop_eq_nil_of_le (by rw [HL.out]; omega)])])
                    clear he
                    go_wp2_with fail
                    go_ret
                    exact ⟨ret_li (unhide HV), rfl⟩
                  · have hb : (((q : Nat) : Int) != (s.size : Int)) = true := bne_t (by omega)
                    have HV : Hid ((0 : Int) = lexOf L) := hide (by
                      rw [unhide HX]
                      unfold lexEnd
                      rw [if_neg (fun h => he (by have := List.drop_eq_nil_iff.1 h; rw [HL.out] at this; omega))])
                    go_wp2_with fail
                    go_ret
                    exact ⟨ret_li (unhide HV), rfl⟩
              · have J := hide (fun w => is_at (d + 1) ((d : Int) + 1) (by omega) 43 45 true hsg w)
                have hlt2 : d + 1 < s.size := hd_lt HL.out hsg
                have ht2 : Hid ((L.drop (d + 1)).tail = L.drop (d + 1 + 1)) := hide (by rw [List.tail_drop])
                replace HX : Hid (lexOf L = lexDig 2 (L.drop (d + 1 + 1)) (lexEnd 2)) := hide (by
                  rw [unhide HX]; unfold lexExp; rw [he, unhide ht, hsg, if_pos rfl, if_pos rfl, unhide ht2])
                clear he hsg
                go_wp2_with fail
                with_reducible refine (unhide I _).mono ?_
                rintro e w' ⟨rfl, rfl⟩
                go_wp2_with fail
                with_reducible refine (unhide J _).mono ?_
                rintro e w' ⟨rfl, rfl⟩
                have hk : d + 1 + 1 ≤ s.size := by omega
                obtain ⟨q, hq⟩ : ∃ x : Nat, d + 1 + 1 + runL (L.drop (d + 1 + 1)) = x := ⟨_, rfl⟩
                have Dq := hide (fun w => digits_at (d + 1 + 1) hk ((d : Int) + 1 + 1) ((q : Nat) : Int) (by omega) (by rw [hq]) w)
                have hleq : q ≤ s.size := by have := runL_le (L.drop (d + 1 + 1)); rw [List.length_drop, HL.out] at this; omega
                have Eq := hide hq
                clear hq
                by_cases hz : q = d + 1 + 1
                · have hb : (((q : Nat) : Int) == ((d : Int) + 1 + 1 : Int)) = true := beq_t (by omega)
                  have HV : Hid ((0 : Int) = lexOf L) := hide (by
                    have hr : runL (L.drop (d + 1 + 1)) = 0 := by have := unhide Eq; omega
                    rw [unhide HX]
                    unfold lexDig
                    rw [if_pos hr])
                  go_wp2_with fail
                  with_reducible refine (unhide Dq _).mono ?_
                  rintro e w' ⟨rfl, rfl⟩
                  go_wp2_with fail
                  go_ret
                  exact ⟨ret_li (unhide HV), rfl⟩
                · have hb : (((q : Nat) : Int) == ((d : Int) + 1 + 1 : Int)) = false := beq_f (by omega)
                  have HR : Hid (runL (L.drop (d + 1 + 1)) ≠ 0 ∧ (L.drop (d + 1 + 1)).drop (runL (L.drop (d + 1 + 1))) = L.drop q) := hide (by
                    have := unhide Eq
                    exact ⟨by omega, by rw [List.drop_drop, this]⟩)
                  go_wp2_with fail
                  with_reducible refine (unhide Dq _).mono ?_
                  rintro e w' ⟨rfl, rfl⟩
                  replace HX : Hid (lexOf L = lexEnd 2 (L.drop q)) := hide (by
                    rw [unhide HX]
                    unfold lexDig
                    rw [if_neg (unhide HR).1, (unhide HR).2])
                  by_cases he : q = s.size
                  · have hb : (((q : Nat) : Int) != (s.size : Int)) = false := bne_f (by omega)
                    have HV : Hid ((2 : Int) = lexOf L) := hide (by
                      rw [unhide HX]
                      unfold lexEnd
                      rw [if_pos (by rw [List.drop_eq_nil_of_le (by rw [HL.out]; omega)])])
                    clear he
                    go_wp2_with fail
                    go_ret
                    exact ⟨ret_li (unhide HV), rfl⟩
                  · have hb : (((q : Nat) : Int) != (s.size : Int)) = true := bne_t (by omega)
                    have HV : Hid ((0 : Int) = lexOf L) := hide (by
                      rw [unhide HX]
                      unfold lexEnd
                      rw [if_neg (fun h => he (by have := List.drop_eq_nil_iff.1 h; rw [HL.out] at this; omega))])
                    go_wp2_with fail
                    go_ret
                    exact ⟨ret_li (unhide HV), rfl⟩
          · have I := hide (fun w => is_at d ((d : Int)) (by omega) 46 46 true hf w)
            have hlt : d < s.size := hd_lt HL.out hf
            replace HX : Hid (lexOf L = lexDig 2 (L.drop (d + 1)) (lexExp 2)) := hide (by
              rw [unhide HX]; unfold lexFrac; rw [hf, if_pos rfl, List.tail_drop])
            clear hf
            have hk : d + 1 ≤ s.size := by omega
            go_wp2_with fail
            with_reducible refine (unhide I _).mono ?_
            rintro e w' ⟨rfl, rfl⟩
            obtain ⟨f, hf⟩ : ∃ x : Nat, d + 1 + runL (L.drop (d + 1)) = x := ⟨_, rfl⟩
            have Df := hide (fun w => digits_at (d + 1) hk ((d : Int) + 1) ((f : Nat) : Int) (by omega) (by rw [hf]) w)
            have hlef : f ≤ s.size := by have := runL_le (L.drop (d + 1)); rw [List.length_drop, HL.out] at this; omega
            have Ef := hide hf
            clear hf
            by_cases hz : f = d + 1
            · have hb : (((f : Nat) : Int) == ((d : Int) + 1 : Int)) = true := beq_t (by omega)
              have HV : Hid ((0 : Int) = lexOf L) := hide (by
                have hr : runL (L.drop (d + 1)) = 0 := by have := unhide Ef; omega
                rw [unhide HX]
                unfold lexDig
                rw [if_pos hr])
              go_wp2_with fail
              with_reducible refine (unhide Df _).mono ?_
              rintro e w' ⟨rfl, rfl⟩
              go_wp2_with fail
              go_ret
              exact ⟨ret_li (unhide HV), rfl⟩
            · have hb : (((f : Nat) : Int) == ((d : Int) + 1 : Int)) = false := beq_f (by omega)
              have HR : Hid (runL (L.drop (d + 1)) ≠ 0 ∧ (L.drop (d + 1)).drop (runL (L.drop (d + 1))) = L.drop f) := hide (by
                have := unhide Ef
                exact ⟨by omega, by rw [List.drop_drop, this]⟩)
              go_wp2_with fail
              with_reducible refine (unhide Df _).mono ?_
              rintro e w' ⟨rfl, rfl⟩
              replace HX : Hid (lexOf L = lexExp 2 (L.drop f)) := hide (by
                rw [unhide HX]
                unfold lexDig
                rw [if_neg (unhide HR).1, (unhide HR).2])
              clear hz
              cases he : hdIs (L.drop f) 101 69
              · have hx := hide he
                have I := hide (fun w => is_at f ((f : Int)) (by omega) 101 69 false he w)
                replace HX : Hid (lexOf L = lexEnd 2 (L.drop f)) := hide (by rw [unhide HX]; unfold lexExp; rw [he]; rfl)
                clear he
                go_wp2_with fail
                with_reducible refine (unhide I _).mono ?_
                rintro e w' ⟨rfl, rfl⟩
                by_cases he : f = s.size
                · have hb : (((f : Nat) : Int) != (s.size : Int)) = false := bne_f (by omega)
                  have HV : Hid ((2 : Int) = lexOf L) := hide (by
                    rw [unhide HX]
                    unfold lexEnd
                    rw [if_pos (by rw [List.drop_eq_nil_of_le (by rw [HL.out]; omega)])])
                  clear he
                  go_wp2_with fail
                  go_ret
                  exact ⟨ret_li (unhide HV), rfl⟩
                · have hb : (((f : Nat) : Int) != (s.size : Int)) = true := bne_t (by omega)
                  have HV : Hid ((0 : Int) = lexOf L) := hide (by
                    rw [unhide HX]
                    unfold lexEnd
                    rw [if_neg (fun h => he (by have := List.drop_eq_nil_iff.1 h; rw [HL.out] at this; omega))])
                  go_wp2_with fail
                  go_ret
                  exact ⟨ret_li (unhide HV), rfl⟩
              · have I := hide (fun w => is_at f ((f : Int)) (by omega) 101 69 true he w)
                have hlt : f < s.size := hd_lt HL.out he
                have ht : Hid ((L.drop f).tail = L.drop (f + 1)) := hide (by rw [List.tail_drop])
                cases hsg : hdIs (L.drop (f + 1)) 43 45
                · have J := hide (fun w => is_at (f + 1) ((f : Int) + 1) (by omega) 43 45 false hsg w)
                  replace HX : Hid (lexOf L = lexDig 2 (L.drop (f + 1)) (lexEnd 2)) := hide (by
                    rw [unhide HX]; unfold lexExp; rw [he, unhide ht, hsg]; rfl)
                  clear he hsg
                  go_wp2_with fail
                  with_reducible refine (unhide I _).mono ?_
                  rintro e w' ⟨rfl, rfl⟩
                  go_wp2_with fail
                  with_reducible refine (unhide J _).mono ?_
                  rintro e w' ⟨rfl, rfl⟩
                  have hk : f + 1 ≤ s.size := by omega
                  obtain ⟨q, hq⟩ : ∃ x : Nat, f + 1 + runL (L.drop (f + 1)) = x := ⟨_, rfl⟩
                  have Dq := hide (fun w => digits_at (f + 1) hk ((f : Int) + 1) ((q : Nat) : Int) (by omega) (by rw [hq]) w)
                  have hleq : q ≤ s.size := by have := runL_le (L.drop (f + 1)); rw [List.length_drop, HL.out] at this; omega
                  have Eq := hide hq
                  clear hq
                  by_cases hz : q = f + 1
                  · have hb : (((q : Nat) : Int) == ((f : Int) + 1 : Int)) = true := beq_t (by omega)
                    have HV : Hid ((0 : Int) = lexOf L) := hide (by
                      have hr : runL (L.drop (f + 1)) = 0 := by have := unhide Eq; omega
                      rw [unhide HX]
                      unfold lexDig
                      rw [if_pos hr])
                    go_wp2_with fail
                    with_reducible refine (unhide Dq _).mono ?_
                    rintro e w' ⟨rfl, rfl⟩
                    go_wp2_with fail
                    go_ret
                    exact ⟨ret_li (unhide HV), rfl⟩
                  · have hb : (((q : Nat) : Int) == ((f : Int) + 1 : Int)) = false := beq_f (by omega)
                    have HR : Hid (runL (L.drop (f + 1)) ≠ 0 ∧ (L.drop (f + 1)).drop (runL (L.drop (f + 1))) = L.drop q) := hide (by
                      have := unhide Eq
                      exact ⟨by omega, by rw [List.drop_drop, this]⟩)
                    go_wp2_with fail
                    with_reducible refine (unhide Dq _).mono ?_
                    rintro e w' ⟨rfl, rfl⟩
                    replace HX : Hid (lexOf L = lexEnd 2 (L.drop q)) := hide (by
                      rw [unhide HX]
                      unfold lexDig
                      rw [if_neg (unhide HR).1, (unhide HR).2])
                    by_cases he : q = s.size
                    · have hb : (((q : Nat) : Int) != (s.size : Int)) = false := bne_f (by omega)
                      have HV : Hid ((2 : Int) = lexOf L) := hide (by
                        rw [unhide HX]
                        unfold lexEnd
                        rw [if_pos (by rw [List.drop_eq_nil_of_le (by rw [HL.out]; omega)])])
                      clear he
                      go_wp2_with fail
                      go_ret
                      exact ⟨ret_li (unhide HV), rfl⟩
                    · have hb : (((q : Nat) : Int) != (s.size : Int)) = true := bne_t (by omega)
                      have HV : Hid ((0 : Int) = lexOf L) := hide (by
                        rw [unhide HX]
                        unfold lexEnd
                        rw [if_neg (fun h => he (by have := List.drop_eq_nil_iff.1 h; rw [HL.out] at this; omega))])
                      go_wp2_with fail
                      go_ret
                      exact ⟨ret_li (unhide HV), rfl⟩
                · have J := hide (fun w => is_at (f + 1) ((f : Int) + 1) (by omega) 43 45 true hsg w)
                  have hlt2 : f + 1 < s.size := hd_lt HL.out hsg
                  have ht2 : Hid ((L.drop (f + 1)).tail = L.drop (f + 1 + 1)) := hide (by rw [List.tail_drop])
                  replace HX : Hid (lexOf L = lexDig 2 (L.drop (f + 1 + 1)) (lexEnd 2)) := hide (by
                    rw [unhide HX]; unfold lexExp; rw [he, unhide ht, hsg, if_pos rfl, if_pos rfl, unhide ht2])
                  clear he hsg
                  go_wp2_with fail
                  with_reducible refine (unhide I _).mono ?_
                  rintro e w' ⟨rfl, rfl⟩
                  go_wp2_with fail
                  with_reducible refine (unhide J _).mono ?_
                  rintro e w' ⟨rfl, rfl⟩
                  have hk : f + 1 + 1 ≤ s.size := by omega
                  obtain ⟨q, hq⟩ : ∃ x : Nat, f + 1 + 1 + runL (L.drop (f + 1 + 1)) = x := ⟨_, rfl⟩
                  have Dq := hide (fun w => digits_at (f + 1 + 1) hk ((f : Int) + 1 + 1) ((q : Nat) : Int) (by omega) (by rw [hq]) w)
                  have hleq : q ≤ s.size := by have := runL_le (L.drop (f + 1 + 1)); rw [List.length_drop, HL.out] at this; omega
                  have Eq := hide hq
                  clear hq
                  by_cases hz : q = f + 1 + 1
                  · have hb : (((q : Nat) : Int) == ((f : Int) + 1 + 1 : Int)) = true := beq_t (by omega)
                    have HV : Hid ((0 : Int) = lexOf L) := hide (by
                      have hr : runL (L.drop (f + 1 + 1)) = 0 := by have := unhide Eq; omega
                      rw [unhide HX]
                      unfold lexDig
                      rw [if_pos hr])
                    go_wp2_with fail
                    with_reducible refine (unhide Dq _).mono ?_
                    rintro e w' ⟨rfl, rfl⟩
                    go_wp2_with fail
                    go_ret
                    exact ⟨ret_li (unhide HV), rfl⟩
                  · have hb : (((q : Nat) : Int) == ((f : Int) + 1 + 1 : Int)) = false := beq_f (by omega)
                    have HR : Hid (runL (L.drop (f + 1 + 1)) ≠ 0 ∧ (L.drop (f + 1 + 1)).drop (runL (L.drop (f + 1 + 1))) = L.drop q) := hide (by
                      have := unhide Eq
                      exact ⟨by omega, by rw [List.drop_drop, this]⟩)
                    go_wp2_with fail
                    with_reducible refine (unhide Dq _).mono ?_
                    rintro e w' ⟨rfl, rfl⟩
                    replace HX : Hid (lexOf L = lexEnd 2 (L.drop q)) := hide (by
                      rw [unhide HX]
                      unfold lexDig
                      rw [if_neg (unhide HR).1, (unhide HR).2])
                    by_cases he : q = s.size
                    · have hb : (((q : Nat) : Int) != (s.size : Int)) = false := bne_f (by omega)
                      have HV : Hid ((2 : Int) = lexOf L) := hide (by
                        rw [unhide HX]
                        unfold lexEnd
                        rw [if_pos (by rw [List.drop_eq_nil_of_le (by rw [HL.out]; omega)])])
                      clear he
                      go_wp2_with fail
                      go_ret
                      exact ⟨ret_li (unhide HV), rfl⟩
                    · have hb : (((q : Nat) : Int) != (s.size : Int)) = true := bne_t (by omega)
                      have HV : Hid ((0 : Int) = lexOf L) := hide (by
                        rw [unhide HX]
                        unfold lexEnd
                        rw [if_neg (fun h => he (by have := List.drop_eq_nil_iff.1 h; rw [HL.out] at this; omega))])
                      go_wp2_with fail
                      go_ret
                      exact ⟨ret_li (unhide HV), rfl⟩
end Go.Proofs.YtdfpknomhambcaaDoor
