/- Contracts of big.Cmp and big.Sub. Conditions: as each says. -/
import Derived.Test.YthlpimdpgmknoaaDoorN12
import Derived.Outline
namespace Go.Proofs.YthlpimdpgmknoaaDoor
open Go.RowKit
set_option linter.unusedSimpArgs false
set_option linter.unusedVariables false
attribute [local irreducible] Fl.K
set_option maxHeartbeats 1600000 in
set_option maxRecDepth 100000 in
theorem bigCmp_bad (ad bd : Option Addr) (n c m d : Nat) (a b : List Nat) (hn : a.length = n) (hm : b.length = m) (hz : n ≤ 100000) (hz2 : m ≤ 100000) (hno : isB a = false ∨ isB b = false) (w : World) (hS : Sl .u16 w ad n (gi a)) (hT : Sl .u16 w bd m (gi b)) :
    Calls Tryd.prog 23 #[.slice ad n c, .slice bd m d] w fun e w' => e = .returned (.int .i64 0) ∧ w = w' := by
  have I1 := bigIs_any ad n c a hn hz w hS
  have I2 := bigIs_any bd m d b hm hz2 w hT
  clear hS hT hn hm
  generalize isB a = x at *
  generalize isB b = y at *
  rcases x with _ | _
  · replace I1 := Lib.hid I1
    clear hno I2
    go_enter Tryd.func23, Tryd.ntmps23
    go_wp2_with fail
    with_reducible refine (I1.out).mono ?_
    rintro e w' ⟨rfl, rfl⟩
    go_wp2_with fail
    go_ret
    exact ⟨rfl, rfl⟩
  · obtain rfl : y = false := by rcases hno with h | h; · cases h
                                 exact h
    replace I1 := Lib.hid I1
    replace I2 := Lib.hid I2
    clear hno
    go_enter Tryd.func23, Tryd.ntmps23
    go_wp2_with fail
    with_reducible refine (I1.out).mono ?_
    rintro e w' ⟨rfl, rfl⟩
    go_wp2_with fail
    with_reducible refine (I2.out).mono ?_
    rintro e w' ⟨rfl, rfl⟩
    go_wp2_with fail
    go_ret
    exact ⟨rfl, rfl⟩
set_option maxHeartbeats 1600000 in
set_option maxRecDepth 100000 in
theorem bigCmp_yes (ad bd : Option Addr) (n c m d : Nat) (a b : List Nat) (hn : a.length = n) (hm : b.length = m) (hz : n ≤ 100000) (hz2 : m ≤ 100000) (ha : isB a = true) (hb : isB b = true) (da : DigL a) (db : DigL b) (w : World) (hS : Sl .u16 w ad n (gi a)) (hT : Sl .u16 w bd m (gi b)) :
    Calls Tryd.prog 23 #[.slice ad n c, .slice bd m d] w fun e w' => e = .returned (.int .i64 (cmpL a b)) ∧ ∃ q, w' = w.drewN q := by
  have I1 := Lib.hid (ha ▸ bigIs_any ad n c a hn (by omega) w hS)
  have I2 := Lib.hid (hb ▸ bigIs_any bd m d b hm (by omega) w hT)
  have C1 := Lib.hid (bigCmp0_any ad bd n c m d a b hn hm hz hz2 da db w hS hT)
  generalize cmpL a b = R at *
  clear hS hT hn hm ha hb da db
  go_enter Tryd.func23, Tryd.ntmps23
  go_wp2_with fail
  with_reducible refine (I1.out).mono ?_
  rintro e w' ⟨rfl, rfl⟩
  go_wp2_with fail
  with_reducible refine (I2.out).mono ?_
  rintro e w' ⟨rfl, rfl⟩
  go_wp2_with fail
  with_reducible refine (C1.out).mono ?_
  rintro e w' ⟨rfl, q, rfl⟩
  go_wp2_with fail
  go_ret
  exact ⟨rfl, q, rfl⟩
set_option maxHeartbeats 1600000 in
set_option maxRecDepth 100000 in
theorem bigSub_bad (ad bd : Option Addr) (n c m d : Nat) (a b : List Nat) (hn : a.length = n) (hm : b.length = m) (hz : n ≤ 100000) (hz2 : m ≤ 100000) (hno : isB a = false ∨ isB b = false) (w : World) (hS : Sl .u16 w ad n (gi a)) (hT : Sl .u16 w bd m (gi b)) :
    Calls Tryd.prog 21 #[.slice ad n c, .slice bd m d] w fun e w' => e = .returned (.tuple #[.slice none 0 0, .bool false]) ∧ w = w' := by
  have I1 := bigIs_any ad n c a hn hz w hS
  have I2 := bigIs_any bd m d b hm hz2 w hT
  clear hS hT hn hm
  generalize isB a = x at *
  generalize isB b = y at *
  rcases x with _ | _
  · replace I1 := Lib.hid I1
    clear hno I2
    go_enter Tryd.func21, Tryd.ntmps21
    go_wp2_with fail
    with_reducible refine (I1.out).mono ?_
    rintro e w' ⟨rfl, rfl⟩
    go_wp2_with fail
    go_ret2
    exact ⟨rfl, rfl⟩
  · obtain rfl : y = false := by rcases hno with h | h; · cases h
                                 exact h
    replace I1 := Lib.hid I1
    replace I2 := Lib.hid I2
    clear hno
    go_enter Tryd.func21, Tryd.ntmps21
    go_wp2_with fail
    with_reducible refine (I1.out).mono ?_
    rintro e w' ⟨rfl, rfl⟩
    go_wp2_with fail
    with_reducible refine (I2.out).mono ?_
    rintro e w' ⟨rfl, rfl⟩
    go_wp2_with fail
    go_ret2
    exact ⟨rfl, rfl⟩
set_option maxHeartbeats 1600000 in
set_option maxRecDepth 100000 in
theorem bigSub_less (ad bd : Option Addr) (n c m d : Nat) (a b : List Nat) (hn : a.length = n) (hm : b.length = m) (hz : n ≤ 100000) (hz2 : m ≤ 100000) (ha : isB a = true) (hb : isB b = true) (da : DigL a) (db : DigL b) (hlt : valL a < valL b) (w : World) (hS : Sl .u16 w ad n (gi a)) (hT : Sl .u16 w bd m (gi b)) :
    Calls Tryd.prog 21 #[.slice ad n c, .slice bd m d] w fun e w' => e = .returned (.tuple #[.slice none 0 0, .bool false]) ∧ ∃ q, w' = w.drewN q := by
  have I1 := Lib.hid (ha ▸ bigIs_any ad n c a hn (by omega) w hS)
  have I2 := Lib.hid (hb ▸ bigIs_any bd m d b hm (by omega) w hT)
  have C1 := bigCmp0_any ad bd n c m d a b hn hm hz hz2 da db w hS hT
  rw [cmpL_can ⟨da, (isB_iff.1 ha).2⟩ ⟨db, (isB_iff.1 hb).2⟩, if_pos hlt] at C1
  replace C1 := Lib.hid C1
  clear hS hT hn hm ha hb da db hlt
  go_enter Tryd.func21, Tryd.ntmps21
  go_wp2_with fail
  with_reducible refine (I1.out).mono ?_
  rintro e w' ⟨rfl, rfl⟩
  go_wp2_with fail
  with_reducible refine (I2.out).mono ?_
  rintro e w' ⟨rfl, rfl⟩
  go_wp2_with fail
  with_reducible refine (C1.out).mono ?_
  rintro e w' ⟨rfl, q, rfl⟩
  go_wp2_with fail
  go_ret2
  exact ⟨rfl, q, rfl⟩
set_option maxHeartbeats 3200000 in
set_option maxRecDepth 100000 in
theorem bigSub_yes (ad bd : Option Addr) (n c m d : Nat) (a b : List Nat) (hn : a.length = n) (hm : b.length = m) (hz : n ≤ 1000) (hz2 : m ≤ 1000) (ha : isB a = true) (hb : isB b = true) (da : DigL a) (db : DigL b) (hge : valL b ≤ valL a) (w : World) (hS : Sl .u16 w ad n (gi a)) (hT : Sl .u16 w bd m (gi b)) :
    Calls Tryd.prog 21 #[.slice ad n c, .slice bd m d] w fun e w' => ∃ x cx, e = .returned (.tuple #[.slice x (dg (valL a - valL b)).length cx, .bool true]) ∧ Sl .u16 w' x (dg (valL a - valL b)).length (gi (dg (valL a - valL b))) ∧ Below w.heap.size w w' := by
  have hca : Can a := ⟨da, (isB_iff.1 ha).2⟩
  have hcb : Can b := ⟨db, (isB_iff.1 hb).2⟩
  have hmn : m ≤ n := by
    rcases Nat.lt_or_ge n m with h | h
    · have := hca.lt_len hcb (by omega); omega
    · exact h
  have I1 := Lib.hid (ha ▸ bigIs_any ad n c a hn (by omega) w hS)
  have I2 := Lib.hid (hb ▸ bigIs_any bd m d b hm (by omega) w hT)
  have C1 : Hid (∃ R : Int, 0 ≤ R ∧ Calls Tryd.prog 45 #[.slice ad n c, .slice bd m d] w fun e w' => e = .returned (.int .i64 R) ∧ ∃ q, w' = w.drewN q) := Lib.hid ⟨cmpL a b, by rw [cmpL_can hca hcb, if_neg (by omega)]; split <;> decide, bigCmp0_any ad bd n c m d a b hn hm (by omega) (by omega) da db w hS hT⟩
  have HS := Lib.hid hS
  have HT := Lib.hid hT
  have CL := Lib.hid (fun w h => clone_any ad n c a hn (by omega) w h)
  obtain ⟨R, hR⟩ : ∃ R, dg (valL a - valL b) = R := ⟨_, rfl⟩
  rw [hR]
  have HV : Hid (dg (valL ((List.range n).map (sbD a b))) = R) := Lib.hid (by
    have := sub_val da db (by omega) hge
    rw [hn] at this
    rw [this, hR])
  have HN := Lib.hid hn
  have HM := Lib.hid hm
  have HI := Lib.hid (fun K => gi_bd da K)
  have HJ := Lib.hid (fun K => gi_bd db K)
  clear hS hT hn hm ha hb da db hge hca hcb hR
  obtain ⟨Rc, rc0, C1'⟩ := C1.out
  have hrc : ¬ Rc < 0 := by omega
  clear C1
  have C1 := Lib.hid C1'
  clear C1'
  go_enter Tryd.func21, Tryd.ntmps21
  go_wp2_with fail
  with_reducible refine (I1.out).mono ?_
  rintro e w' ⟨rfl, rfl⟩
  go_wp2_with fail
  with_reducible refine (I2.out).mono ?_
  rintro e w' ⟨rfl, rfl⟩
  go_wp2_with fail
  with_reducible refine (C1.out).mono ?_
  rintro e w' ⟨rfl, q, rfl⟩
  go_wp2_with fail
  with_reducible refine (CL.out _ (HS.out.drewN q)).mono ?_
  rintro e w1 ⟨v1, rfl, o1, hb1⟩
  have hw1 : Below w.heap.size w w1 := (below_drewN (Below.refl _ _) q).trans hb1
  have hz1 := hw1.size
  clear hb1
  by_cases hN0 : n = 0
  · have ex : a.length = 0 := by have := HN.out; omega
    have hR0 : R = [] := by rw [← HV.out, hN0]; exact dg_zero
    obtain ⟨ad1, c1, rfl, hc1, s1⟩ := own_sl o1
    have TR := Lib.hid (fun w => bigTrim_any ad1 0 c1 [] rfl (Nat.zero_le _) (by decide) DigL.nil w (Sl.none _ _ _ _))
    rw [show (dg (valL [])).length = 0 by rw [show valL [] = 0 from rfl, dg_zero]; rfl] at TR
    rw [ex] at hc1 ⊢
    subst hR0
    clear o1 ex s1
    go_wp2_with fail
    go_loop [7, 28] (fun q k => q = .int .i64 0 ∧ k = .int .i64 0) (fun _ _ => 0)
    case atStart => exact ⟨rfl, rfl⟩
    case round =>
      obtain ⟨rfl, rfl⟩ := hrel
      go_wp2_with fail
      with_reducible refine (TR.out _).mono ?_
      rintro e w' ⟨rfl, rfl⟩
      go_wp2_with fail
      go_ret2
      exact ⟨_, _, rfl, Sl.none _ _ _ _, hw1⟩
  · obtain ⟨g, cap, rfl, hg, hcap, oA⟩ := ownA_of o1 (by have := HN.out; omega)
    rw [HN.out] at oA hcap ⊢
    clear o1
    replace oA := Lib.hid oA
    go_wp2_with fail
    go_loopw [7, 28] (fun r k wr => ∃ (K : Nat) (x : Int), K ≤ n ∧ k = .int .i64 K ∧ r = .int .i64 x ∧ Hid (x = ((sbB a b K : Nat) : Int)) ∧ 0 ≤ x ∧ x ≤ 1 ∧ OwnA wr (w.drewN q).heap.size g cap n (mixL n (sbD a b) a K) ∧ Below w.heap.size w wr) (fun _ k _ => n - (intOf k).toNat)
    case atStart => exact ⟨0, 0, Nat.zero_le _, rfl, rfl, Lib.hid rfl, by decide, by decide, oA.out.congr (by have := HN.out; subst this; exact (mixL_zero _).symm), hw1⟩
    case round =>
      obtain ⟨K, x, hK, rfl, rfl, hx, x0, x1, oK, hbw⟩ := hrel
      clear oA hw1 hz1
      have hzw := hbw.size
      by_cases hK4 : K < n
      · have ck := oK.at K hK4
        rw [show gi (mixL n (sbD a b) a K) K = gi a K by unfold gi; rw [mixL_getD hK4, if_neg (Nat.lt_irrefl _)]] at ck
        have fr := oK.free K
        have rl := oK.lt.2
        have gl : w.heap.size ≤ g := oK.lt.1
        have bx := HI.out K
        have by0 := HJ.out K
        obtain ⟨v, hv⟩ : ∃ v : Int, v = gi a K - x - gi b K := ⟨_, rfl⟩
        have hD : v % 65536 = ((sbD a b K : Nat) : Int) := by
          have h3 := sbB_le a b K
          have h1 := bx.2
          have h2 := by0.2
          rw [hv, hx.out]; unfold sbD gi at *; omega
        have hC : bits .and .i64 (v / 65536) 1 = ((sbB a b (K + 1) : Nat) : Int) := by
          have h1 := bx.2
          have h2 := by0.2
          have e1 : ((sbB a b (K + 1) : Nat) : Int) = if v < 0 then 1 else 0 := by
            rw [hv, hx.out, sbB]; unfold gi at *
            split <;> split <;> omega
          rw [e1]
          by_cases h0 : v < 0
          · rw [if_pos h0, show v / 65536 = -1 by omega]; decide
          · rw [if_neg h0, show v / 65536 = 0 by omega]; decide
        have hb01 : ((sbB a b (K + 1) : Nat) : Int) ≤ 1 := by have := sbB_le a b (K + 1); omega
        have hS := Lib.hid (fun (W : World) (o : OwnA W (w.drewN q).heap.size g cap n (mixL n (sbD a b) a K)) => (o.set K _ _ hD).congr (mixL_step hK4))
        obtain ⟨y, hy⟩ : ∃ y : Int, y = ((sbB a b (K + 1) : Nat) : Int) := ⟨_, rfl⟩
        rw [← hy] at hC hb01
        have y0 : 0 ≤ y := by omega
        have HY := Lib.hid hy
        replace oK := Lib.hid oK
        have eW : IntKind.u16.wrap v = v % 65536 := IntKind.wrap_u16 v
        have k2 : (0 : Int) ≤ (K : Int) := by omega
        by_cases hKM : K < m
        · obtain ⟨ay, rfl, hay, hcy⟩ := HT.out.beyond hbw K hKM
          have hv2 : gi a K - x - gi b K = v := hv.symm
          generalize gi a K = u at *
          generalize gi b K = t at *
          obtain ⟨u0, u1⟩ := bx
          obtain ⟨t0, t1⟩ := by0
          have v0 : -65536 ≤ v := by omega
          have v1 : v ≤ 65535 := by omega
          clear hD hv hy
          go_wp2_with fail
          go_roundw
          case rel => exact ⟨K + 1, y, by omega, by go_num, by first | rfl | (simp; done), HY, y0, hb01, hS.out _ oK.out, by repeat' (first | (with_reducible assumption) | (with_reducible exact Below.refl _ _) | (with_reducible refine below_drewN ?_ _) | (with_reducible refine Below.drew ?_) | (with_reducible refine Below.setCell ?_ ?_ _) | (with_reducible refine Below.alloc ?_ ?_ _) | omega | (simp; done) | (simp; omega))⟩
          case measure => first | (simp [intOf]; done) | (simp [intOf]; omega)
        · have hy0 : gi b K = 0 := by unfold gi; rw [getD_out (by have := HM.out; omega)]; rfl
          rw [hy0, Int.sub_zero] at hv
          have hv2 : gi a K - x = v := hv.symm
          generalize gi a K = u at *
          obtain ⟨u0, u1⟩ := bx
          have v0 : -1 ≤ v := by omega
          have v1 : v ≤ 65535 := by omega
          clear hD hv hy hy0 by0
          go_wp2_with fail
          go_roundw
          case rel => exact ⟨K + 1, y, by omega, by go_num, by first | rfl | (simp; done), HY, y0, hb01, hS.out _ oK.out, by repeat' (first | (with_reducible assumption) | (with_reducible exact Below.refl _ _) | (with_reducible refine below_drewN ?_ _) | (with_reducible refine Below.drew ?_) | (with_reducible refine Below.setCell ?_ ?_ _) | (with_reducible refine Below.alloc ?_ ?_ _) | omega | (simp; done) | (simp; omega))⟩
          case measure => first | (simp [intOf]; done) | (simp [intOf]; omega)
      · obtain rfl : K = n := by omega
        have oE := (oK.congr (mixL_end K (sbD a b) a)).toU
        have TR := Lib.hid (bigTrim_own _ _ _ _ oE (sb_dig a b K) (by simp; omega))
        rw [HV.out] at TR
        clear oE oK
        go_wp2_with fail
        with_reducible refine (TR.out).mono ?_
        rintro e w' ⟨rfl, ad', c', rfl, hc', hS'⟩
        have HS' := Lib.hid hS'
        clear hS'
        go_wp2_with fail
        go_ret2
        exact ⟨_, _, rfl, HS'.out, hbw⟩
end Go.Proofs.YthlpimdpgmknoaaDoor
