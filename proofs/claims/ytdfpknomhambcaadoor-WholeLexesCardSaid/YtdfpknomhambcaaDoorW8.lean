/- The reference's Lexeme: its contract is lexOf. Condition: texts of at most 1000 bytes. -/
import Derived.Test.YtdfpknomhambcaaDoorW7
import Derived.Test.YtdfpknomhambcaaDoorW3
import Derived.Outline
namespace Go.Proofs.YtdfpknomhambcaaDoor
open Go.RowKit
set_option linter.unusedSimpArgs false
set_option linter.unusedVariables false

theorem isEmpty_not (t : ByteArray) (h : 0 < t.size) : (!t.toList.isEmpty) = true := by
  rw [isEmpty_size, decide_eq_false (by omega)]; rfl
theorem run_at (t : ByteArray) (ht : t.size ≤ 1000) (n : Nat) (hn : runL t.data.toList = n) (w : World) :
    Calls Tryd.prog 37 #[.string t] w fun e w' => e = .returned (.int .i64 (n : Int)) ∧ w = w' := by
  subst hn; exact run_any t ht w
theorem hd_pos {t : ByteArray} {c d : Int} (h : hdIs t.data.toList c d = true) : 0 < t.size := by
  rcases Nat.eq_zero_or_pos t.size with h0 | h0
  · rw [List.eq_nil_of_length_eq_zero (show t.data.toList.length = 0 by rw [← h0]; simp)] at h; cases h
  · exact h0
/-- The ways of a test 'len(t) > 0 && (t[0] == c || t[0] == d)'. -/
theorem two_ways (t : ByteArray) (c d : Int) : (t.size = 0 ∧ hdIs t.data.toList c d = false) ∨
    (∃ h : 0 < t.size, hdIs t.data.toList c d = false ∧ (((t[0]'h).toNat : Int) == c) = false ∧ (((t[0]'h).toNat : Int) == d) = false) ∨
    (∃ h : 0 < t.size, hdIs t.data.toList c d = true ∧ (((t[0]'h).toNat : Int) == c) = true) ∨
    (∃ h : 0 < t.size, hdIs t.data.toList c d = true ∧ (((t[0]'h).toNat : Int) == c) = false ∧ (((t[0]'h).toNat : Int) == d) = true) := by
  rcases Nat.eq_zero_or_pos t.size with h | h
  · refine Or.inl ⟨h, ?_⟩
    rw [List.eq_nil_of_length_eq_zero (show t.data.toList.length = 0 by rw [← h]; simp)]; rfl
  · have e := hd_at t h c d
    cases h1 : (((t[0]'h).toNat : Int) == c) <;> cases h2 : (((t[0]'h).toNat : Int) == d) <;> rw [h1, h2] at e
    · exact Or.inr (Or.inl ⟨h, e, h1, h2⟩)
    · exact Or.inr (Or.inr (Or.inr ⟨h, e, h1, h2⟩))
    · exact Or.inr (Or.inr (Or.inl ⟨h, e, h1⟩))
    · exact Or.inr (Or.inr (Or.inl ⟨h, e, h1⟩))
set_option maxHeartbeats 16000000 in
set_option maxRecDepth 100000 in
theorem refLexeme_any (s : ByteArray) (hs : s.size ≤ 1000) (w : World) :
    Calls Tryd.prog 22 #[.string s] w fun e w' => e = .returned (.int .i64 (lexOf s.data.toList)) ∧ Below w.heap.size w w' := by
  obtain ⟨L, hLe⟩ : ∃ L, s.data.toList = L := ⟨_, rfl⟩
  have HLE := hide hLe
  rw [hLe]
  clear hLe
  go_enter Tryd.func22, Tryd.ntmps22
  obtain ⟨b, hb⟩ : ∃ b, hdIs s.data.toList 45 45 = b := ⟨_, rfl⟩
  have Hb := hide hb
  go_upto_region 2 with fail
  go_cut [12] (fun x W => x = .bool b ∧ Below w.heap.size w W)
  case first =>
    rcases two_ways s 45 45 with ⟨q0, q1⟩ | ⟨q0, q1, q2, q3⟩ | ⟨q0, q1, q2⟩ | ⟨q0, q1, q2, q3⟩
    all_goals first
      | exact absurd q3 (by rw [q2]; decide)
      | (rw [hb] at q1; subst q1; clear hb; go_wp2_with fail; go_meet; exact ⟨by first | rfl | simp [*], by repeat' (first | (with_reducible assumption) | (with_reducible exact Below.refl _ _) | (with_reducible refine below_drewN ?_ _) | (with_reducible refine Below.drew ?_) | (with_reducible refine Below.setCell ?_ ?_ _) | (with_reducible refine Below.alloc ?_ ?_ _) | omega | (simp; done) | (simp; omega))⟩)
  case rest =>
    obtain ⟨rfl, hbw⟩ := hcut
    clear hb
    go_upto_if 12 with fail
    go_cut [0] (fun x W => ∃ t : ByteArray, x = .string t ∧ t.size ≤ 1000 ∧ Hid (lexOf L = lexInt t.data.toList) ∧ Below w.heap.size w W)
    case first =>
      cases b
      · go_wp2_with fail
        go_meet
        exact ⟨s, rfl, hs, hide (by rw [← unhide HLE]; exact lexOf_plain (unhide Hb)), by repeat' (first | (with_reducible assumption) | (with_reducible exact Below.refl _ _) | (with_reducible refine below_drewN ?_ _) | (with_reducible refine Below.drew ?_) | (with_reducible refine Below.setCell ?_ ?_ _) | (with_reducible refine Below.alloc ?_ ?_ _) | omega | (simp; done) | (simp; omega))⟩
      · have h0 := hd_pos (unhide Hb)
        obtain ⟨o, ho⟩ : ∃ yy : ByteArray, s.extract (1) s.size = yy := ⟨_, rfl⟩
        have Lo := hide (show o.data.toList = s.data.toList.drop (1) by rw [← ho]; exact ext_drop s (1))
        have zo : o.size ≤ 1000 := by rw [← ho, ByteArray.size_extract]; omega
        have HXo : Hid (lexOf L = lexInt o.data.toList) := hide (by
          obtain ⟨l, hl, e⟩ := lexOf_sign (unhide Hb)
          rw [← unhide HLE, e, unhide Lo, hl]; rfl)
        go_wp2_with fail
        go_meet
        exact ⟨o, by first | rfl | rw [ho], zo, HXo, by repeat' (first | (with_reducible assumption) | (with_reducible exact Below.refl _ _) | (with_reducible refine below_drewN ?_ _) | (with_reducible refine Below.drew ?_) | (with_reducible refine Below.setCell ?_ ?_ _) | (with_reducible refine Below.alloc ?_ ?_ _) | omega | (simp; done) | (simp; omega))⟩
    case rest =>
      obtain ⟨t, rfl, ht, HX, hbw⟩ := hcut
      obtain ⟨n, hn⟩ : ∃ x : Nat, runL t.data.toList = x := ⟨_, rfl⟩
      have Rn := hide (fun w => run_at t (by omega) n hn w)
      have ln : n ≤ t.size := by have := runL_le t.data.toList; rw [hn] at this; simpa using this
      have En := hide hn
      clear hn
      go_wp2_with fail
      with_reducible refine (unhide Rn _).mono ?_
      rintro e w' ⟨rfl, rfl⟩
      obtain ⟨z, hz⟩ : ∃ z, (decide (n = 0) || (hdIs t.data.toList 48 48 && decide (1 < n))) = z := ⟨_, rfl⟩
      have HZ := hide hz
      go_upto_region 5 with fail
      go_cut [27] (fun x W => x = .bool z ∧ Below w.heap.size w W)
      case first =>
        by_cases h0 : n = 0
        · have hb : (((n : Nat) : Int) == 0) = true := beq_t (by omega)
          rw [decide_eq_true h0, Bool.true_or] at hz
          subst hz
          go_wp2_with fail
          go_meet
          exact ⟨rfl, by repeat' (first | (with_reducible assumption) | (with_reducible exact Below.refl _ _) | (with_reducible refine below_drewN ?_ _) | (with_reducible refine Below.drew ?_) | (with_reducible refine Below.setCell ?_ ?_ _) | (with_reducible refine Below.alloc ?_ ?_ _) | omega | (simp; done) | (simp; omega))⟩
        · have hb : (((n : Nat) : Int) == 0) = false := beq_f (by omega)
          have h1 : 0 < t.size := by omega
          have h48 := hd_at t h1 48 48
          rw [Bool.or_self] at h48
          rw [decide_eq_false h0, Bool.false_or, h48] at hz
          cases h2 : (((t[0]'h1).toNat : Int) == 48)
          · rw [h2, Bool.false_and] at hz
            subst hz
            clear h48
            go_wp2_with fail
            go_meet
            exact ⟨rfl, by repeat' (first | (with_reducible assumption) | (with_reducible exact Below.refl _ _) | (with_reducible refine below_drewN ?_ _) | (with_reducible refine Below.drew ?_) | (with_reducible refine Below.setCell ?_ ?_ _) | (with_reducible refine Below.alloc ?_ ?_ _) | omega | (simp; done) | (simp; omega))⟩
          · rw [h2, Bool.true_and] at hz
            by_cases h3 : 1 < n
            · have h4 : (1 : Int) < (n : Int) := by omega
              rw [decide_eq_true h3] at hz
              subst hz
              clear h48
              go_wp2_with fail
              go_meet
              exact ⟨by first | rfl | simp [*], by repeat' (first | (with_reducible assumption) | (with_reducible exact Below.refl _ _) | (with_reducible refine below_drewN ?_ _) | (with_reducible refine Below.drew ?_) | (with_reducible refine Below.setCell ?_ ?_ _) | (with_reducible refine Below.alloc ?_ ?_ _) | omega | (simp; done) | (simp; omega))⟩
            · have h4 : ¬ (1 : Int) < (n : Int) := by omega
              rw [decide_eq_false h3] at hz
              subst hz
              clear h48
              go_wp2_with fail
              go_meet
              exact ⟨by first | rfl | simp [*], by repeat' (first | (with_reducible assumption) | (with_reducible exact Below.refl _ _) | (with_reducible refine below_drewN ?_ _) | (with_reducible refine Below.drew ?_) | (with_reducible refine Below.setCell ?_ ?_ _) | (with_reducible refine Below.alloc ?_ ?_ _) | omega | (simp; done) | (simp; omega))⟩
      case rest =>
        obtain ⟨rfl, hbw⟩ := hcut
        clear hz
        cases z
        · replace HX : Hid (lexOf L = lexFrac (t.data.toList.drop n)) := hide (by
            rw [unhide HX]; unfold lexInt
            have e := unhide En
            have hz := unhide HZ
            rw [if_neg, e]
            rintro (h | ⟨h1, h2⟩)
            · rw [decide_eq_true (by omega : n = 0)] at hz; simp at hz
            · rw [h1, decide_eq_true (by omega : 1 < n)] at hz; simp at hz)
          have hn1 : 1 ≤ n := by
            have hz := unhide HZ
            rcases Nat.eq_zero_or_pos n with h | h
            · rw [decide_eq_true h] at hz; simp at hz
            · exact h
          obtain ⟨d, hd⟩ : ∃ yy : ByteArray, t.extract (n) t.size = yy := ⟨_, rfl⟩
          have Ld := hide (show d.data.toList = t.data.toList.drop (n) by rw [← hd]; exact ext_drop t (n))
          have zd : d.size ≤ 1000 := by rw [← hd, ByteArray.size_extract]; omega
          replace HX : Hid (lexOf L = lexFrac d.data.toList) := hide (by rw [unhide HX, unhide Ld])
          obtain ⟨f, hf⟩ : ∃ b, hdIs d.data.toList 46 46 = b := ⟨_, rfl⟩
          have Hf := hide hf
          go_upto_region 8 with fail
          go_cut [38] (fun x W => x = .bool f ∧ Below w.heap.size w W)
          case first =>
            rcases two_ways d 46 46 with ⟨q0, q1⟩ | ⟨q0, q1, q2, q3⟩ | ⟨q0, q1, q2⟩ | ⟨q0, q1, q2, q3⟩
            all_goals first
              | exact absurd q3 (by rw [q2]; decide)
              | (rw [hf] at q1; subst q1; clear hf; go_wp2_with fail; go_meet; exact ⟨by first | rfl | simp [*], by repeat' (first | (with_reducible assumption) | (with_reducible exact Below.refl _ _) | (with_reducible refine below_drewN ?_ _) | (with_reducible refine Below.drew ?_) | (with_reducible refine Below.setCell ?_ ?_ _) | (with_reducible refine Below.alloc ?_ ?_ _) | omega | (simp; done) | (simp; omega))⟩)
          case rest =>
            obtain ⟨rfl, hbw⟩ := hcut
            clear hf
            go_upto_if 38 with fail
            go_cut [0, 3] (fun x y W => ∃ (t : ByteArray) (κ : Int), x = .string t ∧ y = .int .i64 κ ∧ t.size ≤ 1000 ∧ Hid (lexOf L = lexExp κ t.data.toList) ∧ Below w.heap.size w W)
            case first =>
              cases f
              · go_wp2_with fail
                go_meet
                exact ⟨d, 1, rfl, rfl, zd, hide (by rw [unhide HX]; unfold lexFrac; rw [unhide Hf]; rfl), by repeat' (first | (with_reducible assumption) | (with_reducible exact Below.refl _ _) | (with_reducible refine below_drewN ?_ _) | (with_reducible refine Below.drew ?_) | (with_reducible refine Below.setCell ?_ ?_ _) | (with_reducible refine Below.alloc ?_ ?_ _) | omega | (simp; done) | (simp; omega))⟩
              · have h0 := hd_pos (unhide Hf)
                obtain ⟨p, hp⟩ : ∃ yy : ByteArray, d.extract (1) d.size = yy := ⟨_, rfl⟩
                have Lp := hide (show p.data.toList = d.data.toList.drop (1) by rw [← hp]; exact ext_drop d (1))
                have zp : p.size ≤ 1000 := by rw [← hp, ByteArray.size_extract]; omega
                replace HX : Hid (lexOf L = lexDig 2 p.data.toList (lexExp 2)) := hide (by
                  rw [unhide HX]; unfold lexFrac; rw [unhide Hf, if_pos rfl, unhide Lp, List.drop_one])
                have hps : p.size + 1 = d.size := by rw [← hp, ByteArray.size_extract]; omega
                obtain ⟨i, hi⟩ : ∃ x : Nat, runL p.data.toList = x := ⟨_, rfl⟩
                have Ri := hide (fun w => run_at p (by omega) i hi w)
                have li : i ≤ p.size := by have := runL_le p.data.toList; rw [hi] at this; simpa using this
                have Ei := hide hi
                clear hi
                go_wp2_with fail
                with_reducible refine (unhide Ri _).mono ?_
                rintro e w' ⟨rfl, rfl⟩
                by_cases hz : i = 0
                · have hb : (((i : Nat) : Int) == 0) = true := beq_t (by omega)
                  have HV : Hid ((0 : Int) = lexOf L) := hide (by
                    rw [unhide HX]; unfold lexDig; rw [if_pos (by have := unhide Ei; omega)])
                  go_wp2_with fail
                  go_ret
                  exact ⟨ret_li (unhide HV), by repeat' (first | (with_reducible assumption) | (with_reducible exact Below.refl _ _) | (with_reducible refine below_drewN ?_ _) | (with_reducible refine Below.drew ?_) | (with_reducible refine Below.setCell ?_ ?_ _) | (with_reducible refine Below.alloc ?_ ?_ _) | omega | (simp; done) | (simp; omega))⟩
                · have hb : (((i : Nat) : Int) == 0) = false := beq_f (by omega)
                  obtain ⟨g, hg⟩ : ∃ yy : ByteArray, d.extract (1 + i) d.size = yy := ⟨_, rfl⟩
                  have Lg := hide (show g.data.toList = d.data.toList.drop (1 + i) by rw [← hg]; exact ext_drop d (1 + i))
                  have zg : g.size ≤ 1000 := by rw [← hg, ByteArray.size_extract]; omega
                  have HXg : Hid (lexOf L = lexExp 2 g.data.toList) := hide (by
                    rw [unhide HX]; unfold lexDig; rw [if_neg (by have := unhide Ei; omega), unhide Ei, unhide Lg, unhide Lp, List.drop_drop])
                  go_wp2_with fail
                  go_quiet (fail)
                  go_wp2_with fail
                  go_meet
                  exact ⟨g, 2, by first | rfl | rw [hg], rfl, zg, HXg, by repeat' (first | (with_reducible assumption) | (with_reducible exact Below.refl _ _) | (with_reducible refine below_drewN ?_ _) | (with_reducible refine Below.drew ?_) | (with_reducible refine Below.setCell ?_ ?_ _) | (with_reducible refine Below.alloc ?_ ?_ _) | omega | (simp; done) | (simp; omega))⟩
            case rest =>
              clear HX hd
              obtain ⟨t2, κ, rfl, rfl, ht2, HX, hbw⟩ := hcut
              obtain ⟨ee, hee⟩ : ∃ b, hdIs t2.data.toList 101 69 = b := ⟨_, rfl⟩
              have Hee := hide hee
              go_upto_region 13 with fail
              go_cut [60] (fun x W => x = .bool ee ∧ Below w.heap.size w W)
              case first =>
                rcases two_ways t2 101 69 with ⟨q0, q1⟩ | ⟨q0, q1, q2, q3⟩ | ⟨q0, q1, q2⟩ | ⟨q0, q1, q2, q3⟩
                all_goals first
                  | exact absurd q3 (by rw [q2]; decide)
                  | (rw [hee] at q1; subst q1; clear hee; go_wp2_with fail; go_meet; exact ⟨by first | rfl | simp [*], by repeat' (first | (with_reducible assumption) | (with_reducible exact Below.refl _ _) | (with_reducible refine below_drewN ?_ _) | (with_reducible refine Below.drew ?_) | (with_reducible refine Below.setCell ?_ ?_ _) | (with_reducible refine Below.alloc ?_ ?_ _) | omega | (simp; done) | (simp; omega))⟩)
              case rest =>
                obtain ⟨rfl, hbw⟩ := hcut
                clear hee
                go_upto_if 60 with fail
                go_cut [0, 3] (fun x y W => ∃ (t : ByteArray) (κ : Int), x = .string t ∧ y = .int .i64 κ ∧ t.size ≤ 1000 ∧ Hid (lexOf L = lexEnd κ t.data.toList) ∧ Below w.heap.size w W)
                case first =>
                  cases ee
                  · go_wp2_with fail
                    go_meet
                    exact ⟨t2, κ, rfl, rfl, ht2, hide (by rw [unhide HX]; unfold lexExp; rw [unhide Hee]; rfl), by repeat' (first | (with_reducible assumption) | (with_reducible exact Below.refl _ _) | (with_reducible refine below_drewN ?_ _) | (with_reducible refine Below.drew ?_) | (with_reducible refine Below.setCell ?_ ?_ _) | (with_reducible refine Below.alloc ?_ ?_ _) | omega | (simp; done) | (simp; omega))⟩
                  · have h0 := hd_pos (unhide Hee)
                    obtain ⟨a, ha⟩ : ∃ yy : ByteArray, t2.extract (1) t2.size = yy := ⟨_, rfl⟩
                    have La := hide (show a.data.toList = t2.data.toList.drop (1) by rw [← ha]; exact ext_drop t2 (1))
                    have za : a.size ≤ 1000 := by rw [← ha, ByteArray.size_extract]; omega
                    replace HX : Hid (lexOf L = if hdIs a.data.toList 43 45 = true then lexDig 2 a.data.toList.tail (lexEnd 2) else lexDig 2 a.data.toList (lexEnd 2)) := hide (by
                      rw [unhide HX]; unfold lexExp; rw [unhide Hee, if_pos rfl, unhide La, List.drop_one])
                    obtain ⟨v, hv⟩ : ∃ b, hdIs a.data.toList 43 45 = b := ⟨_, rfl⟩
                    have Hv := hide hv
                    go_upto_region 15 with fail
                    go_cut [75] (fun x W => x = .bool v ∧ Below w.heap.size w W)
                    case first =>
                      rcases two_ways a 43 45 with ⟨q0, q1⟩ | ⟨q0, q1, q2, q3⟩ | ⟨q0, q1, q2⟩ | ⟨q0, q1, q2, q3⟩
                      all_goals first
                        | exact absurd q3 (by rw [q2]; decide)
                        | (rw [hv] at q1; subst q1; clear hv; go_wp2_with fail; go_meet; exact ⟨by first | rfl | simp [*], by repeat' (first | (with_reducible assumption) | (with_reducible exact Below.refl _ _) | (with_reducible refine below_drewN ?_ _) | (with_reducible refine Below.drew ?_) | (with_reducible refine Below.setCell ?_ ?_ _) | (with_reducible refine Below.alloc ?_ ?_ _) | omega | (simp; done) | (simp; omega))⟩)
                    case rest =>
                      obtain ⟨rfl, hbw⟩ := hcut
                      clear hv
                      go_upto_if 75 with fail
                      go_cut [0] (fun x W => ∃ t : ByteArray, x = .string t ∧ t.size ≤ 1000 ∧ Hid (lexOf L = lexDig 2 t.data.toList (lexEnd 2)) ∧ Below w.heap.size w W)
                      case first =>
                        cases v
                        · go_wp2_with fail
                          go_meet
                          exact ⟨a, rfl, za, hide (by rw [unhide HX, unhide Hv]; rfl), by repeat' (first | (with_reducible assumption) | (with_reducible exact Below.refl _ _) | (with_reducible refine below_drewN ?_ _) | (with_reducible refine Below.drew ?_) | (with_reducible refine Below.setCell ?_ ?_ _) | (with_reducible refine Below.alloc ?_ ?_ _) | omega | (simp; done) | (simp; omega))⟩
                        · have h0 := hd_pos (unhide Hv)
                          obtain ⟨c, hc⟩ : ∃ yy : ByteArray, a.extract (1) a.size = yy := ⟨_, rfl⟩
                          have Lc := hide (show c.data.toList = a.data.toList.drop (1) by rw [← hc]; exact ext_drop a (1))
                          have zc : c.size ≤ 1000 := by rw [← hc, ByteArray.size_extract]; omega
                          go_wp2_with fail
                          go_meet
                          exact ⟨c, by first | rfl | rw [hc], zc, hide (by rw [unhide HX, unhide Hv, if_pos rfl, unhide Lc, List.drop_one]), by repeat' (first | (with_reducible assumption) | (with_reducible exact Below.refl _ _) | (with_reducible refine below_drewN ?_ _) | (with_reducible refine Below.drew ?_) | (with_reducible refine Below.setCell ?_ ?_ _) | (with_reducible refine Below.alloc ?_ ?_ _) | omega | (simp; done) | (simp; omega))⟩
                      case rest =>
                        clear HX ha
                        obtain ⟨t3, rfl, ht3, HX, hbw⟩ := hcut
                        obtain ⟨j, hj⟩ : ∃ x : Nat, runL t3.data.toList = x := ⟨_, rfl⟩
                        have Rj := hide (fun w => run_at t3 (by omega) j hj w)
                        have lj : j ≤ t3.size := by have := runL_le t3.data.toList; rw [hj] at this; simpa using this
                        have Ej := hide hj
                        clear hj
                        go_wp2_with fail
                        with_reducible refine (unhide Rj _).mono ?_
                        rintro e w' ⟨rfl, rfl⟩
                        by_cases hz : j = 0
                        · have hb : (((j : Nat) : Int) == 0) = true := beq_t (by omega)
                          have HV : Hid ((0 : Int) = lexOf L) := hide (by
                            rw [unhide HX]; unfold lexDig; rw [if_pos (by have := unhide Ej; omega)])
                          go_wp2_with fail
                          go_ret
                          exact ⟨ret_li (unhide HV), by repeat' (first | (with_reducible assumption) | (with_reducible exact Below.refl _ _) | (with_reducible refine below_drewN ?_ _) | (with_reducible refine Below.drew ?_) | (with_reducible refine Below.setCell ?_ ?_ _) | (with_reducible refine Below.alloc ?_ ?_ _) | omega | (simp; done) | (simp; omega))⟩
                        · have hb : (((j : Nat) : Int) == 0) = false := beq_f (by omega)
                          obtain ⟨q, hq⟩ : ∃ yy : ByteArray, t3.extract (j) t3.size = yy := ⟨_, rfl⟩
                          have Lq := hide (show q.data.toList = t3.data.toList.drop (j) by rw [← hq]; exact ext_drop t3 (j))
                          have zq : q.size ≤ 1000 := by rw [← hq, ByteArray.size_extract]; omega
                          have HXq : Hid (lexOf L = lexEnd 2 q.data.toList) := hide (by
                            rw [unhide HX]; unfold lexDig; rw [if_neg (by have := unhide Ej; omega), unhide Ej, unhide Lq])
                          go_wp2_with fail
                          go_quiet (fail)
                          go_wp2_with fail
                          go_meet
                          exact ⟨q, 2, by first | rfl | rw [hq], rfl, zq, HXq, by repeat' (first | (with_reducible assumption) | (with_reducible exact Below.refl _ _) | (with_reducible refine below_drewN ?_ _) | (with_reducible refine Below.drew ?_) | (with_reducible refine Below.setCell ?_ ?_ _) | (with_reducible refine Below.alloc ?_ ?_ _) | omega | (simp; done) | (simp; omega))⟩
                case rest =>
                  clear HX
                  obtain ⟨t4, κ4, rfl, rfl, ht4, HX, hbw⟩ := hcut
                  have hE := isEmpty_size t4
                  by_cases h0 : t4.size = 0
                  · rw [decide_eq_true h0] at hE
                    have HV : Hid (κ4 = lexOf L) := hide (by
                      rw [unhide HX]; unfold lexEnd; rw [if_pos (List.eq_nil_of_length_eq_zero (by rw [← h0]; simp))])
                    go_wp2_with fail
                    go_ret
                    exact ⟨ret_li (unhide HV), by repeat' (first | (with_reducible assumption) | (with_reducible exact Below.refl _ _) | (with_reducible refine below_drewN ?_ _) | (with_reducible refine Below.drew ?_) | (with_reducible refine Below.setCell ?_ ?_ _) | (with_reducible refine Below.alloc ?_ ?_ _) | omega | (simp; done) | (simp; omega))⟩
                  · rw [decide_eq_false h0] at hE
                    have hN := isEmpty_not t4 (by omega)
                    have HV : Hid ((0 : Int) = lexOf L) := hide (by
                      rw [unhide HX]; unfold lexEnd; rw [if_neg (fun h => h0 (by have := congrArg List.length h; simpa using this))])
                    go_wp2_with fail
                    go_ret
                    exact ⟨ret_li (unhide HV), by repeat' (first | (with_reducible assumption) | (with_reducible exact Below.refl _ _) | (with_reducible refine below_drewN ?_ _) | (with_reducible refine Below.drew ?_) | (with_reducible refine Below.setCell ?_ ?_ _) | (with_reducible refine Below.alloc ?_ ?_ _) | omega | (simp; done) | (simp; omega))⟩
        · have HV : Hid ((0 : Int) = lexOf L) := hide (by
            rw [unhide HX]; unfold lexInt
            have e := unhide En
            have hz := unhide HZ
            simp only [Bool.or_eq_true, Bool.and_eq_true, decide_eq_true_eq] at hz
            rw [if_pos (by rcases hz with h | ⟨h1, h2⟩; exact Or.inl (by omega); exact Or.inr ⟨h1, by omega⟩)])
          go_wp2_with fail
          go_ret
          exact ⟨ret_li (unhide HV), by repeat' (first | (with_reducible assumption) | (with_reducible exact Below.refl _ _) | (with_reducible refine below_drewN ?_ _) | (with_reducible refine Below.drew ?_) | (with_reducible refine Below.setCell ?_ ?_ _) | (with_reducible refine Below.alloc ?_ ?_ _) | omega | (simp; done) | (simp; omega))⟩
end Go.Proofs.YtdfpknomhambcaaDoor
