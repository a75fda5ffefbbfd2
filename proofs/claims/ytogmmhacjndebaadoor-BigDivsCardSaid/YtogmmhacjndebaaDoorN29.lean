/- The contract of big.Div. Condition: rows of at most 100 digits. -/
import Derived.Test.YtogmmhacjndebaaDoorN28
import Derived.Test.YtogmmhacjndebaaDoorN7
import Derived.Test.YtogmmhacjndebaaDoorNS
import Derived.Test.YtogmmhacjndebaaDoorShelf
import Derived.Outline
namespace Go.Proofs.YtogmmhacjndebaaDoor
open Go.RowKit
set_option linter.unusedSimpArgs false
set_option linter.unusedVariables false
attribute [local irreducible] Fl.K
theorem ownA_ofd {w : World} {base : Nat} {v : Value} {l : List Nat} (h : OwnU w base v l) (h0 : l.length ≠ 0) : ∃ g cap, v = .slice (some ⟨g, 0, none⟩) l.length cap ∧ base ≤ g ∧ l.length ≤ cap ∧ OwnA w base g cap l.length l := by
  have h' := h
  rcases h.2 with ⟨rfl, h1⟩ | ⟨g, cap, cur, rfl, hb, hgg, hnc, _, _, htake⟩
  · exact absurd (by simpa using h1) (fun e : l = [] => h0 (by rw [e]; rfl))
  · exact ⟨g, cap, rfl, hb, hnc, rfl, h'⟩
theorem OwnA.mono {w : World} {base base' g cap n : Nat} {l : List Nat} (h : OwnA w base g cap n l) (hb : base' ≤ base) : OwnA w base' g cap n l := ⟨h.1, owns_mono h.2 hb⟩
theorem len16_any (t : Nat) (h : t < 65536) (w : World) : Calls Tryd.prog 18 #[.int .u16 (t : Int)] w fun e w' => e = .returned (.int .i64 ((Lib.bitLen t : Nat) : Int)) ∧ w = w' := by
  have h1 := Tryd.bits_Len16 (t : Int) w (by omega) (by omega)
  rw [Int.toNat_natCast] at h1
  refine h1.mono ?_
  rintro e w' ⟨rfl, rfl⟩
  exact ⟨rfl, rfl⟩
def DivP (a b : List Nat) (w : World) (e : Ending) (w' : World) : Prop :=
  ∃ qd cq rd cr, e = .returned (.tuple #[.slice qd (dg (valL a / valL b)).length cq, .slice rd (dg (valL a % valL b)).length cr, .bool true]) ∧ Sl .u16 w' qd (dg (valL a / valL b)).length (gi (dg (valL a / valL b))) ∧ Sl .u16 w' rd (dg (valL a % valL b)).length (gi (dg (valL a % valL b))) ∧ Below w.heap.size w w'
set_option maxHeartbeats 1600000 in
set_option maxRecDepth 100000 in
theorem div_no (ad bd : Option Addr) (n c m d : Nat) (a b : List Nat) (hn : a.length = n) (hm : b.length = m) (hz : n ≤ 100000) (hz2 : m ≤ 100000) (hno : isB a = false ∨ isB b = false ∨ m = 0) (w : World) (hS : Sl .u16 w ad n (gi a)) (hT : Sl .u16 w bd m (gi b)) :
    Calls Tryd.prog 5 #[.slice ad n c, .slice bd m d] w fun e w' => e = .returned (.tuple #[.slice none 0 0, .slice none 0 0, .bool false]) ∧ w = w' := by
  have I1 := bigIs_any ad n c a hn hz w hS
  have I2 := bigIs_any bd m d b hm hz2 w hT
  cases ha : isB a with
  | false =>
    rw [ha] at I1
    have I1 := Lib.hid I1
    clear hno I2 ha hS hT hn hm
    go_enter Tryd.func5, Tryd.ntmps5
    go_wp2_with fail
    with_reducible refine (I1.out).mono ?_
    rintro e w' ⟨rfl, rfl⟩
    go_wp2_with fail
    go_ret3
    exact ⟨rfl, rfl⟩
  | true =>
    rw [ha] at I1
    have I1 := Lib.hid I1
    cases hb : isB b with
    | false =>
      rw [hb] at I2
      have I2 := Lib.hid I2
      clear hno ha hb hS hT hn hm
      go_enter Tryd.func5, Tryd.ntmps5
      go_wp2_with fail
      with_reducible refine (I1.out).mono ?_
      rintro e w' ⟨rfl, rfl⟩
      go_wp2_with fail
      with_reducible refine (I2.out).mono ?_
      rintro e w' ⟨rfl, rfl⟩
      go_wp2_with fail
      go_ret3
      exact ⟨rfl, rfl⟩
    | true =>
      rw [hb] at I2
      have I2 := Lib.hid I2
      have h0 : m = 0 := by
        rw [ha, hb] at hno
        rcases hno with h | h | h
        · cases h
        · cases h
        · exact h
      subst h0
      clear hno ha hb hS hT hn hm
      go_enter Tryd.func5, Tryd.ntmps5
      go_wp2_with fail
      with_reducible refine (I1.out).mono ?_
      rintro e w' ⟨rfl, rfl⟩
      go_wp2_with fail
      with_reducible refine (I2.out).mono ?_
      rintro e w' ⟨rfl, rfl⟩
      go_wp2_with fail
      go_ret3
      exact ⟨rfl, rfl⟩
set_option maxHeartbeats 6400000 in
set_option maxRecDepth 100000 in
theorem div_yes (ad bd : Option Addr) (n c m d : Nat) (a b : List Nat) (hn : a.length = n) (hm : b.length = m) (hz : n ≤ 900) (hz2 : m ≤ 900) (ha : isB a = true) (hb : isB b = true) (da : DigL a) (db : DigL b) (hm0 : m ≠ 0) (w : World) (hS : Sl .u16 w ad n (gi a)) (hT : Sl .u16 w bd m (gi b)) :
    Calls Tryd.prog 5 #[.slice ad n c, .slice bd m d] w (DivP a b w) := by
  have hca : Can a := ⟨da, (isB_iff.1 ha).2⟩
  have hcb : Can b := ⟨db, (isB_iff.1 hb).2⟩
  have I1 := bigIs_any ad n c a hn (by omega) w hS
  have I2 := bigIs_any bd m d b hm (by omega) w hT
  rw [ha] at I1
  rw [hb] at I2
  have I1 := Lib.hid I1
  have I2 := Lib.hid I2
  have C1 := bigCmp0_any ad bd n c m d a b hn hm (by omega) (by omega) da db w hS hT
  rw [cmpL_can hca hcb] at C1
  have HS := Lib.hid hS
  have HT := Lib.hid hT
  have HN := Lib.hid hn
  have HM := Lib.hid hm
  have HA := Lib.hid hca
  have HB := Lib.hid hcb
  by_cases hlt : valL a < valL b
  · rw [if_pos hlt] at C1
    have C1 := Lib.hid C1
    have hq : valL a / valL b = 0 := Nat.div_eq_of_lt hlt
    have hr : valL a % valL b = valL a := Nat.mod_eq_of_lt hlt
    have HD : Hid (∀ e w', (∃ rd cr, e = .returned (.tuple #[.slice none 0 0, .slice rd n cr, .bool true]) ∧ Sl .u16 w' rd n (gi a) ∧ Below w.heap.size w w') → DivP a b w e w') := Lib.hid (by
      rintro e w' ⟨rd, cr, rfl, h1, h2⟩
      unfold DivP
      rw [hq, hr, dg_zero, dg_val hca, hn]
      exact ⟨none, 0, rd, cr, rfl, Sl.none _ _ _ _, h1, h2⟩)
    have CL := Lib.hid (fun w h => clone_any ad n c a hn (by omega) w h)
    clear hlt hq hr hca hcb ha hb da db hS hT hn hm
    go_enter Tryd.func5, Tryd.ntmps5
    go_wp2_with fail
    with_reducible refine (I1.out).mono ?_
    rintro e w' ⟨rfl, rfl⟩
    go_wp2_with fail
    with_reducible refine (I2.out).mono ?_
    rintro e w' ⟨rfl, rfl⟩
    go_wp2_with fail
    with_reducible refine (C1.out).mono ?_
    rintro e w' ⟨rfl, q, rfl⟩
    go_wp2_with fail
    with_reducible refine (CL.out _ (HS.out.drewN q)).mono ?_
    rintro e w1 ⟨v1, rfl, o1, hb1⟩
    have hw1 : Below w.heap.size w w1 := (below_drewN (Below.refl _ _) q).trans hb1
    obtain ⟨ad1, c1, rfl, hc1, s1⟩ := own_sl o1
    rw [HN.out] at s1 hc1 ⊢
    have s1 := Lib.hid s1
    clear o1 hb1
    go_wp2_with fail
    go_ret3
    exact HD.out _ _ ⟨_, _, rfl, s1.out, hw1⟩
  · rw [if_neg hlt] at C1
    have C1 : Hid (∃ R : Int, 0 ≤ R ∧ Calls Tryd.prog 14 #[.slice ad n c, .slice bd m d] w fun e w' => e = .returned (.int .i64 R) ∧ ∃ q, w' = w.drewN q) := Lib.hid ⟨_, by split <;> decide, C1⟩
    obtain ⟨R, hR0, C2⟩ := C1.out
    have C1 := Lib.hid C2
    have hRc : ¬ R < 0 := by omega
    have hm1 : (m : Int) ≠ 0 := by omega
    have hmp : (1 : Int) ≤ (m : Int) := by omega
    clear C2
    by_cases h1 : m = 1
    · subst h1
      obtain ⟨t, ht⟩ : ∃ t, b.getD 0 0 = t := ⟨_, rfl⟩
      have htb : b = [t] := by
        match b, hm with
        | [x], _ => rw [← ht]; rfl
      have t0 : 1 ≤ t := by
        rcases hcb.2 with h | h
        · rw [htb] at h; cases h
        · rw [htb] at h
          have : t ≠ 0 := h
          omega
      have t1 : t ≤ 65535 := by have := db.getD 0; omega
      have hvb : valL b = t := by rw [htb, val_one]
      obtain ⟨bx, rfl, hbx, hcx⟩ := hT 0 (by decide)
      have egx : gi b 0 = (t : Int) := by unfold gi; rw [ht]
      rw [egx] at hcx
      have FW := Lib.hid (fun w h => few_any ad n c a t hn (by omega) da t0 t1 w h)
      have OF := Lib.hid (fun w => bigOf_any (valL a % t) ((valL a % t : Nat) : Int) rfl (by have := Nat.mod_lt (valL a) (show 0 < t by omega); omega) w)
      have hmt : valL a % t < 65536 := by have := Nat.mod_lt (valL a) (show 0 < t by omega); omega
      have eW : IntKind.u64.wrap ((valL a % t : Nat) : Int) = ((valL a % t : Nat) : Int) := by rw [IntKind.wrap_u64]; omega
      have HD : Hid (∀ e w', (∃ qd cq rd cr, e = .returned (.tuple #[.slice qd (dg (valL a / t)).length cq, .slice rd (dg (valL a % t)).length cr, .bool true]) ∧ Sl .u16 w' qd (dg (valL a / t)).length (gi (dg (valL a / t))) ∧ Sl .u16 w' rd (dg (valL a % t)).length (gi (dg (valL a % t))) ∧ Below w.heap.size w w') → DivP a b w e w') := Lib.hid (by
        rintro e w' h
        unfold DivP
        rw [hvb]
        exact h)
      generalize hq : dg (valL a / t) = Q at *
      obtain ⟨rr, hrr⟩ : ∃ r, valL a % t = r := ⟨_, rfl⟩
      rw [hrr] at FW OF HD hmt eW
      generalize hr2 : dg rr = RR at *
      have hb1 : bx.block < w.heap.size := hbx
      clear hlt hca hcb ha hb da db hS hT hn hm hvb htb ht egx hq hr2 hrr
      go_enter Tryd.func5, Tryd.ntmps5
      go_wp2_with fail
      with_reducible refine (I1.out).mono ?_
      rintro e w' ⟨rfl, rfl⟩
      go_wp2_with fail
      with_reducible refine (I2.out).mono ?_
      rintro e w' ⟨rfl, rfl⟩
      go_wp2_with fail
      with_reducible refine (C1.out).mono ?_
      rintro e w' ⟨rfl, q, rfl⟩
      have hcx2 : (w.drewN q).cell? bx = some (.int .u16 (t : Int)) := (World.cell?_drewN _ _ _).trans (by have h : bx.add 0 = bx := rfl; rw [h] at hcx; exact hcx)
      have hwq : Below w.heap.size w (w.drewN q) := below_drewN (Below.refl _ _) q
      have HSq := Lib.hid (HS.out.drewN q)
      have hsq : (w.drewN q).heap.size = w.heap.size := rfl
      generalize w.drewN q = wq at *
      have hsq2 := Lib.hid hsq
      clear hcx hsq
      go_wp2_with fail
      with_reducible refine (FW.out _ HSq.out).mono ?_
      rintro e w1 ⟨rfl, hql, s1, hb1⟩
      have hw1 : Below w.heap.size w w1 := hwq.trans (hb1.mono (by rw [hsq2.out]; exact Nat.le_refl _))
      have s1 := Lib.hid s1
      have hz1 := hw1.size
      clear hb1
      go_wp2_with fail
      with_reducible refine (OF.out _).mono ?_
      rintro e w2 ⟨rd, cr, rfl, hcr, s2, hb2⟩
      have s2 := Lib.hid s2
      have s3 := Lib.hid (s1.out.beyond hb2)
      have hw2 : Below w.heap.size w w2 := hw1.trans (hb2.mono hz1)
      clear hb2 s1
      go_wp2_with fail
      go_ret3
      exact HD.out _ _ ⟨_, _, _, _, rfl, s3.out, s2.out, hw2⟩
    · obtain ⟨k, hk⟩ : ∃ k, m = k + 2 := ⟨m - 2, by omega⟩
      obtain ⟨m1, hmm⟩ : ∃ m1, m1 = k + 1 := ⟨_, rfl⟩
      have hm' : b.length = k + 2 := by rw [hm, hk]
      have a1 : (m : Int) - 1 = (m1 : Int) := by omega
      have a2 : m1 < m := by omega
      have a3 : ¬ (m : Int) = 1 := by omega
      obtain ⟨t, ht⟩ : ∃ t, b.getD m1 0 = t := ⟨_, rfl⟩
      have t0 : 1 ≤ t := by
        rcases hcb.2 with h | h
        · rw [hm] at h; omega
        · rw [hm, hk, show k + 2 - 1 = m1 by omega, ht] at h; omega
      have t1 : t < 65536 := by have := db.getD m1; omega
      obtain ⟨s, hs0, hs1, hs2, hs3⟩ := lift_top t0 t1
      obtain ⟨bx, rfl, hbx, hcx⟩ := hT m1 (by omega)
      have egx : gi b m1 = (t : Int) := by unfold gi; rw [ht]
      rw [egx] at hcx
      have L16 := Lib.hid (fun w => len16_any t t1 w)
      obtain ⟨l16, hl16⟩ : ∃ l, Lib.bitLen t = l := ⟨_, rfl⟩
      rw [hl16] at L16 hs0
      have eS : (16 : Int) - (l16 : Int) = (s : Int) := by omega
      have hl16b : (l16 : Int) ≤ 16 := by omega
      obtain ⟨u1, u2⟩ := lift_len hcb hm' (by rw [← hmm, ht]; exact hs2) (by rw [← hmm, ht]; exact hs3)
      have hq2 : 0 < 2 ^ s := Nat.pow_pos (by decide)
      have UA := Lib.hid (fun w h => up_any ad n c a s (s : Int) rfl hs1 hn (by omega) hca w h)
      have UB := Lib.hid (fun w h => up_any (some bx) m d b s (s : Int) rfl hs1 hm (by omega) hcb w h)
      have hUd := can_dg (valL a * 2 ^ s)
      have hVd := can_dg (valL b * 2 ^ s)
      have hUv := val_dg (valL a * 2 ^ s)
      have hVv := val_dg (valL b * 2 ^ s)
      have hUl : (dg (valL a * 2 ^ s)).length ≤ n + 1 := dg_len_le (by
        have h3 := val_lt da
        rw [hn] at h3
        have h4 : 2 ^ s ≤ 65536 := Nat.le_trans (Nat.pow_le_pow_right (n := 2) (by decide) hs1) (by decide)
        have h5 := Nat.mul_le_mul_left (valL a) h4
        rw [Nat.pow_succ]
        omega)
      have hUg : k + 2 ≤ (dg (valL a * 2 ^ s)).length := by
        have h3 : valL b * 2 ^ s ≤ valL a * 2 ^ s := Nat.mul_le_mul_right _ (by omega)
        have h4 := hVd.ge (by omega)
        rw [u1, hVv, show k + 2 - 1 = k + 1 by omega] at h4
        have := dg_len_gt (n := valL a * 2 ^ s) (k := k + 1) (Nat.le_trans h4 h3)
        omega
      obtain ⟨dv1, dv2⟩ := div_lift (valL a) (valL b) (2 ^ s) hq2
      obtain ⟨U, hU⟩ : ∃ U, dg (valL a * 2 ^ s) = U := ⟨_, rfl⟩
      obtain ⟨V, hV⟩ : ∃ U, dg (valL b * 2 ^ s) = U := ⟨_, rfl⟩
      rw [hU] at UA hUd hUv hUl hUg
      rw [hV] at UB hVd hVv u1 u2
      rw [← hUv, ← hVv] at dv1 dv2
      have LO : Hid (∀ (base gu cu gv cv : Nat) (w : World) (ou : OwnA w base gu cu U.length U) (ov : OwnA w base gv cv m V) (hne : gu ≠ gv) (hb : base ≤ w.heap.size),
        Calls Tryd.prog 19 #[.slice (some ⟨gu, 0, none⟩) U.length cu, .slice (some ⟨gv, 0, none⟩) m cv] w (LongP base gu gv cu cv U.length m U V w)) := Lib.hid (fun base gu cu gv cv w ou ov hne hb => long_any base gu cu U.length gv cv m k U V w ou ov hne hb hUd.1 hVd.1 hk (by omega) (by omega) u2)
      have DN := Lib.hid (fun (ad : Option Addr) (n c : Nat) (x : List Nat) hn hz ha w hS => down_any ad n c x s (s : Int) rfl hs1 hn hz ha w hS)
      have DV := Lib.hid (show valL U / valL V = valL a / valL b ∧ valL U % valL V / 2 ^ s = valL a % valL b from ⟨dv1, dv2⟩)
      have HVl := Lib.hid (show V.length = m by rw [u1, hk])
      have hU0 : U.length ≠ 0 := by omega
      have hU1000 : U.length ≤ 1000 := by omega
      clear hk hmm hm' hlt hca hcb ha hb da db hS hT hn hm egx ht hs2 hs3 hs0 hl16 u1 u2 hq2 hUd hVd hUv hVv hU hV hUg dv1 dv2 hUl
      go_enter Tryd.func5, Tryd.ntmps5
      go_wp2_with fail
      with_reducible refine (I1.out).mono ?_
      rintro e w' ⟨rfl, rfl⟩
      go_wp2_with fail
      with_reducible refine (I2.out).mono ?_
      rintro e w' ⟨rfl, rfl⟩
      go_wp2_with fail
      with_reducible refine (C1.out).mono ?_
      rintro e w' ⟨rfl, q, rfl⟩
      have hcx2 : (w.drewN q).cell? (bx.add m1) = some (.int .u16 (t : Int)) := (World.cell?_drewN _ _ _).trans hcx
      have hwq : Below w.heap.size w (w.drewN q) := below_drewN (Below.refl _ _) q
      have HSq := Lib.hid (HS.out.drewN q)
      have hsq : (w.drewN q).heap.size = w.heap.size := rfl
      generalize w.drewN q = wq at *
      have hsq2 := Lib.hid hsq
      clear hcx hsq
      go_wp2_with fail
      with_reducible refine (L16.out _).mono ?_
      rintro e w' ⟨rfl, rfl⟩
      go_wp2_with fail
      with_reducible refine (UA.out _ HSq.out).mono ?_
      rintro e w1 ⟨v1, rfl, o1, hb1⟩
      obtain ⟨gu, cu, rfl, hgu, hcu, oU⟩ := ownA_ofd o1 hU0
      have hw1 : Below w.heap.size w w1 := hwq.trans (hb1.mono (by rw [hsq2.out]; exact Nat.le_refl _))
      have hz1 := hw1.size
      have oU := Lib.hid oU
      have lu := oU.out.lt.2
      clear o1 hb1 hcx2
      go_wp2_with fail
      with_reducible refine (UB.out _ (HT.out.beyond hw1)).mono ?_
      rintro e w2 ⟨v2, rfl, o2, hb2⟩
      obtain ⟨gv, cv, rfl, hgv, hcv, oV⟩ := ownA_ofd o2 (by rw [HVl.out]; omega)
      rw [HVl.out] at oV hcv ⊢
      have hw2 : Below w.heap.size w w2 := hw1.trans (hb2.mono hz1)
      have hz2 := hw2.size
      have oU2 := oU.out.beyond hb2
      have hsq := hsq2.out
      have oV2 := oV.mono (base' := wq.heap.size) (by omega)
      have hne : gu ≠ gv := by omega
      have LP := Lib.hid (LO.out _ gu cu gv cv w2 oU2 oV2 hne (by omega))
      clear o2 oV oU oU2 oV2 hb2 hsq
      go_wp2_with fail
      with_reducible refine (LP.out).mono ?_
      rintro e w3 ⟨gq, gx, cx, J1, rfl, qL, xL, q1, q2, q3, q4, q5, q6, q7, q8, q9, q10, q11⟩
      have hw3 : Below w.heap.size w w3 := hw2.trans (q11.mono (by rw [hsq2.out]; exact Nat.le_refl _))
      have hz3 := hw3.size
      have TQ := bigTrim_own _ _ _ _ q7.toU q3 (by omega)
      have TX := bigTrim_own _ _ _ _ q8.toU q4 (by omega)
      have hxl := (trim_take q4).1
      rw [q5, DV.out.1] at TQ
      rw [q6] at TX hxl
      have TQ := Lib.hid TQ
      have TX := Lib.hid TX
      have hxl2 : (dg (valL U % valL V)).length ≤ 1000 := by omega
      clear LP q1 q2 q3 q4 q5 q6 q7 q8 q9 q10 q11 hxl
      go_wp2_with fail
      with_reducible refine (TQ.out).mono ?_
      rintro e w' ⟨rfl, qd, cq, rfl, hcq, hSq⟩
      have hSq := Lib.hid hSq
      go_wp2_with fail
      with_reducible refine (TX.out).mono ?_
      rintro e w' ⟨rfl, xd, cx2, rfl, hcx2, hSx⟩
      have DD := DN.out xd _ cx2 (dg (valL U % valL V)) rfl (by omega) (dig_dg _) _ hSx
      rw [val_dg, DV.out.2] at DD
      have DD := Lib.hid DD
      clear hSx
      go_wp2_with fail
      with_reducible refine (DD.out).mono ?_
      rintro e w4 ⟨rd, cr, rfl, hcr, hSr, hb4⟩
      have hSr := Lib.hid hSr
      have hSq2 := Lib.hid (hSq.out.beyond hb4)
      have hw4 : Below w.heap.size w w4 := hw3.trans (hb4.mono hz3)
      clear hb4 hSq
      go_wp2_with fail
      go_ret3
      exact ⟨_, _, _, _, rfl, hSq2.out, hSr.out, hw4⟩
end Go.Proofs.YtogmmhacjndebaaDoor
