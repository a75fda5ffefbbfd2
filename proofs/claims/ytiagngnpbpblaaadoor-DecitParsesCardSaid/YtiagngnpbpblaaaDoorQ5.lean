/- The contract of decit.Parse. Condition: a text of at most 1000 bytes, for which (and whose rest behind its sign) strings.IndexAny answers as its contract says; some integer stands at the library's MaxLen. -/
import Derived.Test.YtiagngnpbpblaaaDoorQ4
namespace Go.Proofs.YtiagngnpbpblaaaDoor
open Go.RowKit
set_option linter.unusedSimpArgs false
set_option linter.unusedVariables false

def leastOf (q : Int) (d c : Nat) : Int := if c = 0 then -6176 else max (-6176) (q + d - c - (34 - c))
def mostOf (q : Int) (d c : Nat) : Int := if c = 0 then 6111 else min 6111 (q + d - c)
def expOf (q : Int) (d c : Nat) : Int := min (max q (leastOf q d c)) (mostOf q d c)
def farOf (q : Int) (d c : Nat) : Bool := decide (34 < c) || decide (mostOf q d c < leastOf q d c)
def coefL (core : List UInt8) (z : Nat) : List UInt8 := if core = [] then [48] else core ++ List.replicate z 48
/-- The value of a coefficient's digits. -/
def cofV (core : List UInt8) (z : Int) : Int := pV (parseOf (coefL core z.toNat))
/-- What digits times 10^q are, as a decimal. -/
def finR (ng : Bool) (q : Int) (dg : List UInt8) : Int × Int × Int :=
  if farOf q dg.length (Lib.trimRightB dg 48).length then (0, 0, 10)
  else (jHigh ng (cofV (Lib.trimRightB dg 48) (q + dg.length - (Lib.trimRightB dg 48).length - expOf q dg.length (Lib.trimRightB dg 48).length) / 18446744073709551616) (cofV (Lib.trimRightB dg 48) (q + dg.length - (Lib.trimRightB dg 48).length - expOf q dg.length (Lib.trimRightB dg 48).length) % 18446744073709551616) (expOf q dg.length (Lib.trimRightB dg 48).length),
    jLow (cofV (Lib.trimRightB dg 48) (q + dg.length - (Lib.trimRightB dg 48).length - expOf q dg.length (Lib.trimRightB dg 48).length) / 18446744073709551616) (cofV (Lib.trimRightB dg 48) (q + dg.length - (Lib.trimRightB dg 48).length - expOf q dg.length (Lib.trimRightB dg 48).length) % 18446744073709551616) (expOf q dg.length (Lib.trimRightB dg 48).length), 0)
def qOf (l : List UInt8) : Int := expV (stripS l) - behL (mantL (stripS l))
def dOf (l : List UInt8) : List UInt8 := Lib.trimLeftB (digL (mantL (stripS l))) 48
/-- The decimal of a text. -/
def decP (l : List UInt8) : Int × Int × Int :=
  if l = [78, 97, 78] then (8935141660703064064, 0, 0)
  else if l = [73, 110, 102, 105, 110, 105, 116, 121] then (8646911284551352320, 0, 0)
  else if l = [45, 73, 110, 102, 105, 110, 105, 116, 121] then (17870283321406128128, 0, 0)
  else if numOk l = false then (0, 0, 3)
  else if 300 < l.length then (0, 0, 10)
  else finR (hdIs l 45 45) (qOf l) (dOf l)
theorem cof_bd (l : List UInt8) (z : Int) : 0 ≤ cofV l z ∧ cofV l z < 340282366920938463463374607431768211456 := by
  unfold cofV pV
  cases h : parseOf (coefL l z.toNat) with
  | none => exact ⟨by decide, by decide⟩
  | some v =>
    unfold parseOf at h
    split at h
    · rename_i hc
      injection h with h
      subst h
      have := hc.2.2.1
      show (0 : Int) ≤ ((decVal _ : Nat) : Int) ∧ ((decVal _ : Nat) : Int) < _
      omega
    · cases h
theorem rep15_any (c : Nat) (hc : c ≤ 100) (w : World) : Calls Tryd.prog 12 #[.string { data := #[48] }, .int .i64 c] w fun e w' => e = .returned (.string ⟨(List.replicate c (48 : UInt8)).toArray⟩) ∧ Below w.heap.size w w' := by
  have hsz : ({ data := #[48] } : ByteArray).size = 1 := rfl
  refine (Tryd.strings_Repeat { data := #[48] } c w (by omega) (by rw [hsz]; omega)).mono ?_
  rintro e w' ⟨rfl, hb⟩
  refine ⟨?_, hb⟩
  have : Lib.repeatL ({ data := #[48] } : ByteArray).data.toList c = List.replicate c 48 := by
    show Lib.repeatL [48] c = _
    clear hc hb
    induction c with
    | zero => rfl
    | succ n ih => rw [List.replicate_succ, ← ih]; rfl
  rw [this]
theorem par48 : parseOf [48] = some 0 := by
  have e : decVal [48] = 0 := by decide
  have h := parseOf_some (l := [48]) (by decide) (by decide) (by rw [e]; decide) (by rw [e]; exact Lib.decDigits_one (by decide))
  rw [e] at h
  exact h
theorem trimR_le (l : List UInt8) (c : UInt8) : (Lib.trimRightB l c).length ≤ l.length := by
  unfold Lib.trimRightB
  rw [List.length_reverse]
  exact Nat.le_trans (List.dropWhile_sublist _).length_le (by rw [List.length_reverse]; exact Nat.le_refl _)
theorem trimL_le (l : List UInt8) (c : UInt8) : (Lib.trimLeftB l c).length ≤ l.length := (List.dropWhile_sublist _).length_le
theorem expV_bd (t : List UInt8) : -1000000 ≤ expV t ∧ expV t ≤ 1000000 := by
  unfold expV
  have h := expM_bd (stripS (powL t))
  split
  · split <;> omega
  · omega
theorem digL_le (m : List UInt8) : (digL m).length ≤ m.length := by
  unfold digL
  rw [List.length_append]
  exact cut_len m 46
theorem behL_le (m : List UInt8) : behL m ≤ m.length := by
  unfold behL
  have := cut_len m 46
  omega
theorem mantL_le (l : List UInt8) : (mantL l).length ≤ l.length := by
  unfold mantL
  split
  · rw [List.length_take]; omega
  · exact Nat.le_refl _
theorem stripS_le (l : List UInt8) : (stripS l).length ≤ l.length := by
  unfold stripS
  split
  · rw [List.length_tail]; omega
  · exact Nat.le_refl _
theorem fin_far {ng : Bool} {q : Int} {dg : List UInt8} (h : farOf q dg.length (Lib.trimRightB dg 48).length = true) : finR ng q dg = (0, 0, 10) := by
  unfold finR; rw [if_pos h]
theorem fin_ok {ng : Bool} {q x V : Int} {dg core : List UInt8} (hc : Lib.trimRightB dg 48 = core) (h : farOf q dg.length core.length = false) (hx : expOf q dg.length core.length = x) (hV : cofV core (q + dg.length - core.length - x) = V) :
    finR ng q dg = (jHigh ng (V / 18446744073709551616) (V % 18446744073709551616) x, jLow (V / 18446744073709551616) (V % 18446744073709551616) x, 0) := by
  unfold finR
  rw [hc, hx, hV, if_neg (by rw [h]; decide)]
def DecRet (l : List UInt8) (e : Ending) : Prop := e = .returned (.tuple #[.int .u64 (decP l).1, .int .u64 (decP l).2.1, .int .i64 (decP l).2.2])
set_option maxHeartbeats 6400000 in
set_option maxRecDepth 100000 in
theorem decParse_any (s : ByteArray) (hs : s.size ≤ 1000) (H1 : IdxT s) (H2 : 0 < s.size → IdxT (s.extract 1 s.size)) (w : World) (hMx : MaxAt w) :
    Calls Tryd.prog 5 #[.string s] w fun e w' => DecRet s.data.toList e ∧ Below w.heap.size w w' := by
  have NM := Lib.hid (fun (w : World) (h : MaxAt w) => number15_any s hs H1 H2 w h)
  have HMX := Lib.hid hMx
  clear H1 H2 hMx
  obtain ⟨L, hLe⟩ : ∃ L, s.data.toList = L := ⟨_, rfl⟩
  have hLs : L.length = s.size := by rw [← hLe]; simp
  have htl : s.toList = L := by rw [ByteArray.toList_eq]; exact hLe
  rw [hLe] at NM ⊢
  by_cases c1 : L = [78, 97, 78]
  · have HD : Hid (decP L = (8935141660703064064, 0, 0)) := Lib.hid (by unfold decP; rw [if_pos c1])
    rw [c1] at htl
    clear hLs hLe c1
    go_enter Tryd.func5, Tryd.ntmps5
    go_wp2_with fail
    go_ret3
    exact ⟨by unfold DecRet; rw [HD.out]; rfl, by repeat' (first | (with_reducible assumption) | (with_reducible exact Below.refl _ _) | (with_reducible refine below_drewN ?_ _) | (with_reducible refine Below.drew ?_) | (with_reducible refine Below.setCell ?_ ?_ _) | (with_reducible refine Below.alloc ?_ ?_ _) | omega | (simp; done) | (simp; omega))⟩
  · have n1 : (L == [78, 97, 78]) = false := beq_eq_false_iff_ne.2 c1
    by_cases c2 : L = [73, 110, 102, 105, 110, 105, 116, 121]
    · have HD : Hid (decP L = (8646911284551352320, 0, 0)) := Lib.hid (by unfold decP; rw [if_neg c1, if_pos c2])
      rw [c2] at htl
      clear hLs hLe c1 c2
      go_enter Tryd.func5, Tryd.ntmps5
      go_wp2_with fail
      go_ret3
      exact ⟨by unfold DecRet; rw [HD.out]; rfl, by repeat' (first | (with_reducible assumption) | (with_reducible exact Below.refl _ _) | (with_reducible refine below_drewN ?_ _) | (with_reducible refine Below.drew ?_) | (with_reducible refine Below.setCell ?_ ?_ _) | (with_reducible refine Below.alloc ?_ ?_ _) | omega | (simp; done) | (simp; omega))⟩
    · have n2 : (L == [73, 110, 102, 105, 110, 105, 116, 121]) = false := beq_eq_false_iff_ne.2 c2
      by_cases c3 : L = [45, 73, 110, 102, 105, 110, 105, 116, 121]
      · have HD : Hid (decP L = (17870283321406128128, 0, 0)) := Lib.hid (by unfold decP; rw [if_neg c1, if_neg c2, if_pos c3])
        rw [c3] at htl
        clear hLs hLe c1 c2 c3
        go_enter Tryd.func5, Tryd.ntmps5
        go_wp2_with fail
        go_ret3
        exact ⟨by unfold DecRet; rw [HD.out]; rfl, by repeat' (first | (with_reducible assumption) | (with_reducible exact Below.refl _ _) | (with_reducible refine below_drewN ?_ _) | (with_reducible refine Below.drew ?_) | (with_reducible refine Below.setCell ?_ ?_ _) | (with_reducible refine Below.alloc ?_ ?_ _) | omega | (simp; done) | (simp; omega))⟩
      · have n3 : (L == [45, 73, 110, 102, 105, 110, 105, 116, 121]) = false := beq_eq_false_iff_ne.2 c3
        have HD : Hid (decP L = if numOk L = false then (0, 0, 3) else if 300 < L.length then (0, 0, 10) else finR (hdIs L 45 45) (qOf L) (dOf L)) := Lib.hid (by unfold decP; rw [if_neg c1, if_neg c2, if_neg c3])
        clear c1 c2 c3
        have hx := expV_bd (stripS L)
        have hb0 := behL_le (mantL (stripS L))
        have hb1 := mantL_le (stripS L)
        have hb2 := stripS_le L
        have hg0 := digL_le (mantL (stripS L))
        obtain ⟨B, hB⟩ : ∃ B, behL (mantL (stripS L)) = B := ⟨_, rfl⟩
        obtain ⟨X, hX⟩ : ∃ X, expV (stripS L) = X := ⟨_, rfl⟩
        obtain ⟨ng, hng⟩ : ∃ b, hdIs L 45 45 = b := ⟨_, rfl⟩
        obtain ⟨D, hDD⟩ : ∃ D : ByteArray, (⟨(digL (mantL (stripS L))).toArray⟩ : ByteArray) = D := ⟨_, rfl⟩
        have hDl : D.data.toList = digL (mantL (stripS L)) := by rw [← hDD]
        have hDs : D.data.toList.length = D.size := by simp
        obtain ⟨d, hd⟩ : ∃ d : ByteArray, (⟨(Lib.trimLeftB D.data.toList 48).toArray⟩ : ByteArray) = d := ⟨_, rfl⟩
        have hdl : d.data.toList = dOf L := by rw [← hd]; unfold dOf; rw [← hDl]
        have hds : d.data.toList.length = d.size := by simp
        obtain ⟨c, hc⟩ : ∃ c : ByteArray, (⟨(Lib.trimRightB d.data.toList 48).toArray⟩ : ByteArray) = c := ⟨_, rfl⟩
        have hcl : c.data.toList = Lib.trimRightB (dOf L) 48 := by rw [← hc, ← hdl]
        have hcs : c.data.toList.length = c.size := by simp
        have hDz : D.size ≤ 1000 := by rw [← hDs, hDl]; omega
        have TL := Lib.hid (fun w => Tryd.strings_TrimLeft_one D 48 (by decide) w)
        have TR := Lib.hid (fun w => Tryd.strings_TrimRight_one d 48 (by decide) w (by
          have h1 := trimL_le D.data.toList 48
          have h2 : d.data.toList = Lib.trimLeftB D.data.toList 48 := by rw [← hd]
          rw [← h2, hds] at h1
          omega))
        rw [hd] at TL
        rw [hc] at TR
        have hd1 : d.size ≤ 1000 := by
          have h1 := trimL_le D.data.toList 48
          have h2 : d.data.toList = Lib.trimLeftB D.data.toList 48 := by rw [← hd]
          rw [← h2, hds] at h1
          omega
        have hc1 : c.size ≤ d.size := by
          have h1 := trimR_le d.data.toList 48
          have h2 : c.data.toList = Lib.trimRightB d.data.toList 48 := by rw [← hc]
          rw [← h2, hcs, hds] at h1
          exact h1
        have hB1 : B ≤ 1000 := by omega
        rw [hX] at hx
        obtain ⟨x0, x1⟩ := hx
        obtain ⟨q, hq⟩ : ∃ q : Int, X - (B : Int) = q := ⟨_, rfl⟩
        have HQ : Hid (qOf L = q) := Lib.hid (by unfold qOf; rw [hX, hB, hq])
        obtain ⟨top, htop⟩ : ∃ t : Int, q + (d.size : Int) - (c.size : Int) = t := ⟨_, rfl⟩
        have HDS : Hid ((dOf L).length = d.size) := Lib.hid (by rw [← hdl]; exact hds)
        have HCS : Hid ((Lib.trimRightB (dOf L) 48).length = c.size) := Lib.hid (by rw [← hcl]; exact hcs)
        have HCL := Lib.hid hcl
        have hce := isEmpty_size c
        have q0 : -1001000 ≤ q ∧ q ≤ 1000000 := by omega
        obtain ⟨q0, q1⟩ := q0
        have t0 : -1001000 ≤ top ∧ top ≤ 1001000 := by omega
        obtain ⟨t0, t1⟩ := t0
        have HNG := Lib.hid hng
        have NM2 : Hid (∀ (w : World), MaxAt w → Calls Tryd.prog 9 #[.string s] w fun e w' => ((numOk L = true ∧ e = .returned (.tuple #[.bool ng, .string D, .int .i64 B, .int .i64 X, .bool true])) ∨ (numOk L = false ∧ e = .returned (.tuple #[.bool false, .string { data := #[] }, .int .i64 0, .int .i64 0, .bool false]))) ∧ Below w.heap.size w w') := Lib.hid (by
          intro w h
          have := NM.out w h
          unfold NumRet at this
          rw [hng, hDD, hB, hX] at this
          exact this)
        clear NM hb0 hb1 hb2 hg0 hB hX hng hDD hDl hDs hd hdl hds hc hcl hcs
        go_enter Tryd.func5, Tryd.ntmps5
        go_wp2_with fail
        with_reducible refine (NM2.out _ HMX.out).mono ?_
        rintro e w1 ⟨⟨hok, rfl⟩ | ⟨hno, rfl⟩, hb1⟩
        · have hz1 := hb1.size
          by_cases h300 : 300 < s.size
          · have HF : Hid (decP L = (0, 0, 10)) := Lib.hid (by rw [HD.out, if_neg (by rw [hok]; decide), if_pos (by rw [hLs]; exact h300)])
            clear hok
            go_wp2_with fail
            go_ret3
            exact ⟨by unfold DecRet; rw [HF.out]; rfl, by repeat' (first | (with_reducible assumption) | (with_reducible exact Below.refl _ _) | (with_reducible refine below_drewN ?_ _) | (with_reducible refine Below.drew ?_) | (with_reducible refine Below.setCell ?_ ?_ _) | (with_reducible refine Below.alloc ?_ ?_ _) | omega | (simp; done) | (simp; omega))⟩
          · have HF : Hid (decP L = finR ng q (dOf L)) := Lib.hid (by rw [HD.out, if_neg (by rw [hok]; decide), if_neg (by rw [hLs]; exact h300), HNG.out, HQ.out])
            clear hok HD
            by_cases hc0 : c.size = 0
            · rw [decide_eq_true hc0] at hce
              obtain ⟨x, hx⟩ : ∃ x : Int, min (max q (-6176)) 6111 = x := ⟨_, rfl⟩
              have hx2 : -6176 ≤ x ∧ x ≤ 6111 := by omega
              obtain ⟨x2, x3⟩ := hx2
              have hcE : Hid (Lib.trimRightB (dOf L) 48 = []) := Lib.hid (List.eq_nil_of_length_eq_zero (by rw [HCS.out, hc0]))
              have hp0 : parseOf ({ data := #[48] } : ByteArray).data.toList = some 0 := par48
              have WP : Hid (∀ w, Calls Tryd.prog 13 #[.string { data := #[48] }] w fun e w' => e = .returned (.tuple #[.agg #[.int .u64 0, .int .u64 0], .bool true]) ∧ Below w.heap.size w w') := Lib.hid (by
                intro w
                have h := wideParse_any { data := #[48] } (by decide) w
                rw [hp0] at h
                exact h)
              have JN := Lib.hid (fun w => deciJoin_any ng 0 0 x (by decide) (by decide) (by decide) (by decide) (by omega) (by omega) w)
              have HFF : Hid (decP L = (jHigh ng 0 0 x, jLow 0 0 x, 0)) := Lib.hid (by
                rw [HF.out]
                have h1 : farOf q (dOf L).length ([] : List UInt8).length = false := by unfold farOf leastOf mostOf; rfl
                have h2 : expOf q (dOf L).length ([] : List UInt8).length = x := by rw [← hx]; unfold expOf leastOf mostOf; rfl
                have h3 : ∀ z, cofV [] z = 0 := fun z => by
                  unfold cofV coefL
                  rw [if_pos rfl]
                  have : parseOf [48] = some 0 := hp0
                  rw [this]; rfl
                exact fin_ok (V := 0) hcE.out h1 h2 (h3 _))
              clear HF hp0
              go_wp2_with fail
              with_reducible refine (TL.out _).mono ?_
              rintro e w' ⟨rfl, rfl⟩
              go_wp2_with fail
              with_reducible refine (TR.out _).mono ?_
              rintro e w' ⟨rfl, rfl⟩
              go_wp2_with fail
              with_reducible refine (WP.out _).mono ?_
              rintro e w2 ⟨rfl, hb2⟩
              have hw2 : Below w.heap.size w w2 := hb1.trans (hb2.mono hz1)
              have hz2 := hw2.size
              clear hb2
              go_wp2_with fail
              with_reducible refine (JN.out _).mono ?_
              rintro e w3 ⟨rfl, hb3⟩
              have hw3 : Below w.heap.size w w3 := Below.trans (by repeat' (first | (with_reducible assumption) | (with_reducible exact Below.refl _ _) | (with_reducible refine below_drewN ?_ _) | (with_reducible refine Below.drew ?_) | (with_reducible refine Below.setCell ?_ ?_ _) | (with_reducible refine Below.alloc ?_ ?_ _) | omega | (simp; done) | (simp; omega))) (hb3.mono (by first | assumption | (simp; done) | (simp; omega)))
              have hz3 := hw3.size
              go_wp2_with fail
              go_ret3
              exact ⟨by unfold DecRet; rw [HFF.out]; rfl, by repeat' (first | (with_reducible assumption) | (with_reducible exact Below.refl _ _) | (with_reducible refine below_drewN ?_ _) | (with_reducible refine Below.drew ?_) | (with_reducible refine Below.setCell ?_ ?_ _) | (with_reducible refine Below.alloc ?_ ?_ _) | omega | (simp; done) | (simp; omega))⟩
            · rw [decide_eq_false hc0] at hce
              obtain ⟨le, hle⟩ : ∃ x : Int, max (-6176) (top - (34 - (c.size : Int))) = x := ⟨_, rfl⟩
              obtain ⟨mo, hmo⟩ : ∃ x : Int, min 6111 top = x := ⟨_, rfl⟩
              have HLE2 : Hid (leastOf q (dOf L).length (Lib.trimRightB (dOf L) 48).length = le) := Lib.hid (by
                unfold leastOf; rw [HCS.out, HDS.out, if_neg hc0, htop, hle])
              have HMO2 : Hid (mostOf q (dOf L).length (Lib.trimRightB (dOf L) 48).length = mo) := Lib.hid (by
                unfold mostOf; rw [HCS.out, HDS.out, if_neg hc0, htop, hmo])
              by_cases hfar : 34 < c.size ∨ mo < le
              · have HFF : Hid (decP L = (0, 0, 10)) := Lib.hid (by
                  rw [HF.out]
                  refine fin_far ?_
                  unfold farOf
                  rw [HLE2.out, HMO2.out, HCS.out, Bool.or_eq_true, decide_eq_true_eq, decide_eq_true_eq]
                  exact hfar)
                clear HF
                have hle2 : -2000000 ≤ le ∧ le ≤ 2000000 := by omega
                obtain ⟨hle3, hle4⟩ := hle2
                by_cases h34 : 34 < c.size
                · have h34i : (34 : Int) < (c.size : Int) := by omega
                  clear hfar
                  go_wp2_with fail
                  with_reducible refine (TL.out _).mono ?_
                  rintro e w' ⟨rfl, rfl⟩
                  go_wp2_with fail
                  with_reducible refine (TR.out _).mono ?_
                  rintro e w' ⟨rfl, rfl⟩
                  go_wp2_with fail
                  go_ret3
                  exact ⟨by unfold DecRet; rw [HFF.out]; rfl, by repeat' (first | (with_reducible assumption) | (with_reducible exact Below.refl _ _) | (with_reducible refine below_drewN ?_ _) | (with_reducible refine Below.drew ?_) | (with_reducible refine Below.setCell ?_ ?_ _) | (with_reducible refine Below.alloc ?_ ?_ _) | omega | (simp; done) | (simp; omega))⟩
                · have hml : mo < le := by omega
                  have h34i : ¬ (34 : Int) < (c.size : Int) := by omega
                  clear hfar
                  go_wp2_with fail
                  with_reducible refine (TL.out _).mono ?_
                  rintro e w' ⟨rfl, rfl⟩
                  go_wp2_with fail
                  with_reducible refine (TR.out _).mono ?_
                  rintro e w' ⟨rfl, rfl⟩
                  go_wp2_with fail
                  go_ret3
                  exact ⟨by unfold DecRet; rw [HFF.out]; rfl, by repeat' (first | (with_reducible assumption) | (with_reducible exact Below.refl _ _) | (with_reducible refine below_drewN ?_ _) | (with_reducible refine Below.drew ?_) | (with_reducible refine Below.setCell ?_ ?_ _) | (with_reducible refine Below.alloc ?_ ?_ _) | omega | (simp; done) | (simp; omega))⟩
              · have h34 : c.size ≤ 34 := by omega
                have h34i : ¬ (34 : Int) < (c.size : Int) := by omega
                have hml : le ≤ mo := by omega
                clear hfar
                obtain ⟨x, hx⟩ : ∃ x : Int, min (max q le) mo = x := ⟨_, rfl⟩
                have hx2 : le ≤ x ∧ x ≤ mo := by omega
                have hx3 : -6176 ≤ x ∧ x ≤ 6111 := by omega
                obtain ⟨x2, x3⟩ := hx3
                obtain ⟨z, hz⟩ : ∃ z : Nat, top - x = (z : Int) := ⟨(top - x).toNat, by omega⟩
                have hz34 : z ≤ 34 := by omega
                obtain ⟨R, hR⟩ : ∃ R : ByteArray, (⟨(List.replicate z (48 : UInt8)).toArray⟩ : ByteArray) = R := ⟨_, rfl⟩
                have hRl : R.data.toList = List.replicate z 48 := by rw [← hR]
                have hRs : R.size ≤ 34 := by
                  have e : R.data.toList.length = R.size := by simp
                  rw [← e, hRl, List.length_replicate]; exact hz34
                have RP := Lib.hid (fun w => rep15_any z (by omega) w)
                rw [hR] at RP
                have hcR : c.size + R.size ≤ 70 := by omega
                have WP0 := fun w => wideParse_any (c ++ R) (by rw [ByteArray.size_append]; unfold maxLen; omega) w
                obtain ⟨V, hV⟩ : ∃ V, pV (parseOf (c ++ R).data.toList) = V := ⟨_, rfl⟩
                obtain ⟨ok, hok2⟩ : ∃ b, (parseOf (c ++ R).data.toList).isSome = b := ⟨_, rfl⟩
                rw [hV, hok2] at WP0
                have HVV : Hid (cofV (Lib.trimRightB (dOf L) 48) (q + ((dOf L).length : Int) - ((Lib.trimRightB (dOf L) 48).length : Int) - x) = V) := Lib.hid (by
                  unfold cofV coefL
                  have hne : Lib.trimRightB (dOf L) 48 ≠ [] := fun h => hc0 (by rw [← HCS.out, h]; rfl)
                  rw [if_neg hne, HCS.out, HDS.out, htop, hz, Int.toNat_natCast, ← hV]
                  congr 2
                  rw [← HCL.out, ← hRl]
                  simp)
                have hVb := cof_bd (Lib.trimRightB (dOf L) 48) (q + ((dOf L).length : Int) - ((Lib.trimRightB (dOf L) 48).length : Int) - x)
                rw [HVV.out] at hVb
                obtain ⟨V0, V1⟩ := hVb
                obtain ⟨vh, hvh⟩ : ∃ v, V / 18446744073709551616 = v := ⟨_, rfl⟩
                obtain ⟨vl, hvl⟩ : ∃ v, V % 18446744073709551616 = v := ⟨_, rfl⟩
                have hvb : 0 ≤ vh ∧ vh ≤ 18446744073709551615 ∧ 0 ≤ vl ∧ vl ≤ 18446744073709551615 := by omega
                obtain ⟨b0, b1, b2, b3⟩ := hvb
                rw [hvh, hvl] at WP0
                have WP := Lib.hid WP0
                have JN := Lib.hid (fun w => deciJoin_any ng vh vl x b0 b1 b2 b3 (by omega) (by omega) w)
                have HFF : Hid (decP L = (jHigh ng vh vl x, jLow vh vl x, 0)) := Lib.hid (by
                  rw [HF.out]
                  have h1 : farOf q (dOf L).length (Lib.trimRightB (dOf L) 48).length = false := by
                    unfold farOf
                    rw [HLE2.out, HMO2.out, HCS.out, decide_eq_false (by omega), decide_eq_false (by omega)]; rfl
                  have h2 : expOf q (dOf L).length (Lib.trimRightB (dOf L) 48).length = x := by
                    unfold expOf
                    rw [HLE2.out, HMO2.out, hx]
                  have h3 := fin_ok (ng := ng) rfl h1 h2 HVV.out
                  rw [hvh, hvl] at h3
                  exact h3)
                clear HF HVV V0 V1 hvh hvl hV hok2 WP0 hR hRl HLE2 HMO2
                go_wp2_with fail
                with_reducible refine (TL.out _).mono ?_
                rintro e w' ⟨rfl, rfl⟩
                go_wp2_with fail
                with_reducible refine (TR.out _).mono ?_
                rintro e w' ⟨rfl, rfl⟩
                go_wp2_with fail
                with_reducible refine (RP.out _).mono ?_
                rintro e w2 ⟨rfl, hb2⟩
                have hw2 : Below w.heap.size w w2 := hb1.trans (hb2.mono hz1)
                have hz2 := hw2.size
                clear hb2
                go_wp2_with fail
                with_reducible refine (WP.out _).mono ?_
                rintro e w3 ⟨rfl, hb3⟩
                have hw3 : Below w.heap.size w w3 := hw2.trans (hb3.mono hz2)
                have hz3 := hw3.size
                clear hb3
                go_wp2_with fail
                with_reducible refine (JN.out _).mono ?_
                rintro e w4 ⟨rfl, hb4⟩
                have hw4 : Below w.heap.size w w4 := Below.trans (by repeat' (first | (with_reducible assumption) | (with_reducible exact Below.refl _ _) | (with_reducible refine below_drewN ?_ _) | (with_reducible refine Below.drew ?_) | (with_reducible refine Below.setCell ?_ ?_ _) | (with_reducible refine Below.alloc ?_ ?_ _) | omega | (simp; done) | (simp; omega))) (hb4.mono (by first | assumption | (simp; done) | (simp; omega)))
                have hz4 := hw4.size
                go_wp2_with fail
                go_ret3
                exact ⟨by unfold DecRet; rw [HFF.out]; rfl, by repeat' (first | (with_reducible assumption) | (with_reducible exact Below.refl _ _) | (with_reducible refine below_drewN ?_ _) | (with_reducible refine Below.drew ?_) | (with_reducible refine Below.setCell ?_ ?_ _) | (with_reducible refine Below.alloc ?_ ?_ _) | omega | (simp; done) | (simp; omega))⟩
        · have hz1 := hb1.size
          have HF : Hid (decP L = (0, 0, 3)) := Lib.hid (by rw [HD.out, if_pos hno])
          clear hno
          go_wp2_with fail
          go_ret3
          exact ⟨by unfold DecRet; rw [HF.out]; rfl, by repeat' (first | (with_reducible assumption) | (with_reducible exact Below.refl _ _) | (with_reducible refine below_drewN ?_ _) | (with_reducible refine Below.drew ?_) | (with_reducible refine Below.setCell ?_ ?_ _) | (with_reducible refine Below.alloc ?_ ?_ _) | omega | (simp; done) | (simp; omega))⟩
end Go.Proofs.YtiagngnpbpblaaaDoor
