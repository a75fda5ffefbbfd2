/- Contracts of the small functions on digits: trim, Is, Same, Cmp. Conditions: rows of at most 100000 digits. -/
import Derived.Test.YtogmmhacjndebaaDoorProg
import Derived.Test.YtogmmhacjndebaaDoorAid
import Derived.Test.YtogmmhacjndebaaDoorSl
import Derived.Test.YtogmmhacjndebaaDoorN3
import Derived.Outline
namespace Go.Proofs.YtogmmhacjndebaaDoor
open Go.RowKit
set_option linter.unusedSimpArgs false
set_option linter.unusedVariables false
theorem sl_take {w : World} {ad : Option Addr} {n k : Nat} {l : List Nat} (h : Sl .u16 w ad n (gi l)) (hk : k ≤ n) : Sl .u16 w ad k (gi (l.take k)) := fun i hi => by
  rw [gi_take hi]; exact h i (by omega)
theorem dq1 (w : World) (q n : Nat) : ∃ m, (w.drewN q).drewN n = w.drewN m := ⟨_, World.drewN_drewN ..⟩
theorem dq2 (w : World) (q n k : Nat) : ∃ m, ((w.drewN q).drewN n).drewN k = w.drewN m := ⟨_, by rw [World.drewN_drewN, World.drewN_drewN]⟩
def isB (l : List Nat) : Bool := decide (l.length ≤ 256 ∧ (l.length = 0 ∨ ¬ l.getD (l.length - 1) 0 = 0))
theorem isB_iff {l : List Nat} : isB l = true ↔ l.length ≤ 256 ∧ Topn l := by unfold isB Topn; rw [decide_eq_true_eq]
set_option maxRecDepth 100000 in
set_option maxHeartbeats 800000 in
theorem bigTrim_any (ad : Option Addr) (n c : Nat) (l : List Nat) (hn : l.length = n) (hc : n ≤ c) (hz : n ≤ 100000) (hd : DigL l) (w : World) (hS : Sl .u16 w ad n (gi l)) :
    Calls Tryd.prog 21 #[.slice ad n c] w fun e w' => e = .returned (.slice ad (dg (valL l)).length c) ∧ w = w' := by
  have HS := Lib.hid hS
  have HD := Lib.hid hd
  have HN := Lib.hid hn
  obtain ⟨R, hR⟩ : ∃ R, (dg (valL l)).length = R := ⟨_, rfl⟩
  rw [hR]
  have HR := Lib.hid hR
  clear hS hd hn hR
  go_enter Tryd.func21, Tryd.ntmps21
  go_wp2_with fail
  go_loop [0] (fun a => ∃ k : Nat, k ≤ n ∧ a = .slice ad k c ∧ Hid (valL (l.take k) = valL l)) (fun a => match a with | .slice _ k _ => k | _ => 0)
  case atStart => exact ⟨n, Nat.le_refl _, rfl, Lib.hid (by rw [take_all (by have := HN.out; omega)])⟩
  case round =>
    obtain ⟨k, hk, rfl, HV⟩ := hrel
    by_cases h0 : k = 0
    · subst h0
      have he : R = 0 := by rw [← HR.out, ← trim_end (k := 0) HD.out (by omega) HV.out (Or.inl rfl)]; rfl
      subst he
      go_wp2_with fail
      go_ret
      exact ⟨rfl, rfl⟩
    · have hk1 : k - 1 < n := by omega
      obtain ⟨a, rfl, hl, hcell⟩ := HS.out (k - 1) hk1
      have k0 : (1 : Int) ≤ (k : Int) := by omega
      have k1 : (0 : Int) < (k : Int) := by omega
      have kc : (k : Int) ≤ (c : Int) := by omega
      by_cases hx : l.getD (k - 1) 0 = 0
      · rw [gi_zero.2 hx] at hcell
        have HV2 : Hid (valL (l.take (k - 1)) = valL l) := Lib.hid (trim_step (k := k - 1) (by have := HN.out; omega) (by rw [show k - 1 + 1 = k by omega]; exact HV.out) hx)
        clear hx
        go_wp2_with fail
        go_round
        case rel => exact ⟨k - 1, by omega, by first | rfl | (simp; omega), HV2⟩
        case measure => simp; omega
      · have hne : ((gi l (k - 1)) == 0) = false := beq_f (fun h => hx (gi_zero.1 h))
        have he : Hid (k = R) := Lib.hid (by
          rw [← HR.out, ← trim_end (k := k) HD.out (by have := HN.out; omega) HV.out (Or.inr hx), List.length_take, HN.out]; omega)
        generalize gi l (k - 1) = x at *
        clear hx
        go_wp2_with fail
        have he2 := he.out
        subst he2
        go_ret
        exact ⟨rfl, rfl⟩
set_option maxRecDepth 100000 in
set_option maxHeartbeats 800000 in
theorem refTrim_any (ad : Option Addr) (n c : Nat) (l : List Nat) (hn : l.length = n) (hc : n ≤ c) (hz : n ≤ 100000) (hd : DigL l) (w : World) (hS : Sl .u16 w ad n (gi l)) :
    Calls Tryd.prog 23 #[.slice ad n c] w fun e w' => e = .returned (.slice ad (dg (valL l)).length c) ∧ w = w' := by
  have HS := Lib.hid hS
  have HD := Lib.hid hd
  have HN := Lib.hid hn
  obtain ⟨R, hR⟩ : ∃ R, (dg (valL l)).length = R := ⟨_, rfl⟩
  rw [hR]
  have HR := Lib.hid hR
  clear hS hd hn hR
  go_enter Tryd.func23, Tryd.ntmps23
  go_wp2_with fail
  go_loop [0] (fun a => ∃ k : Nat, k ≤ n ∧ a = .slice ad k c ∧ Hid (valL (l.take k) = valL l)) (fun a => match a with | .slice _ k _ => k | _ => 0)
  case atStart => exact ⟨n, Nat.le_refl _, rfl, Lib.hid (by rw [take_all (by have := HN.out; omega)])⟩
  case round =>
    obtain ⟨k, hk, rfl, HV⟩ := hrel
    by_cases h0 : k = 0
    · subst h0
      have he : R = 0 := by rw [← HR.out, ← trim_end (k := 0) HD.out (by omega) HV.out (Or.inl rfl)]; rfl
      subst he
      go_wp2_with fail
      go_ret
      exact ⟨rfl, rfl⟩
    · have hk1 : k - 1 < n := by omega
      obtain ⟨a, rfl, hl, hcell⟩ := HS.out (k - 1) hk1
      have k0 : (1 : Int) ≤ (k : Int) := by omega
      have k1 : (0 : Int) < (k : Int) := by omega
      have kc : (k : Int) ≤ (c : Int) := by omega
      by_cases hx : l.getD (k - 1) 0 = 0
      · rw [gi_zero.2 hx] at hcell
        have HV2 : Hid (valL (l.take (k - 1)) = valL l) := Lib.hid (trim_step (k := k - 1) (by have := HN.out; omega) (by rw [show k - 1 + 1 = k by omega]; exact HV.out) hx)
        clear hx
        go_wp2_with fail
        go_round
        case rel => exact ⟨k - 1, by omega, by first | rfl | (simp; omega), HV2⟩
        case measure => simp; omega
      · have hne : ((gi l (k - 1)) == 0) = false := beq_f (fun h => hx (gi_zero.1 h))
        have he : Hid (k = R) := Lib.hid (by
          rw [← HR.out, ← trim_end (k := k) HD.out (by have := HN.out; omega) HV.out (Or.inr hx), List.length_take, HN.out]; omega)
        generalize gi l (k - 1) = x at *
        clear hx
        go_wp2_with fail
        have he2 := he.out
        subst he2
        go_ret
        exact ⟨rfl, rfl⟩
set_option maxRecDepth 100000 in
set_option maxHeartbeats 800000 in
theorem bigIs_any (ad : Option Addr) (n c : Nat) (l : List Nat) (hn : l.length = n) (hz : n ≤ 100000) (w : World) (hS : Sl .u16 w ad n (gi l)) :
    Calls Tryd.prog 12 #[.slice ad n c] w fun e w' => e = .returned (.bool (isB l)) ∧ w = w' := by
  obtain ⟨R, hR⟩ : ∃ R, isB l = R := ⟨_, rfl⟩
  rw [hR]
  unfold isB at hR
  rw [hn] at hR
  by_cases h1 : n ≤ 256
  · by_cases h0 : n = 0
    · subst h0
      obtain rfl : R = true := by rw [← hR]; simp
      clear hR hn hS
      go_enter Tryd.func12, Tryd.ntmps12
      go_wp2_with fail
      go_ret
      exact ⟨rfl, rfl⟩
    · obtain ⟨a, rfl, hl, hcell⟩ := hS (n - 1) (by omega)
      have k0 : (1 : Int) ≤ (n : Int) := by omega
      have e0 : ((n : Int) == 0) = false := beq_f (by omega)
      clear hS
      by_cases hx : l.getD (n - 1) 0 = 0
      · rw [gi_zero.2 hx] at hcell
        obtain rfl : R = false := by rw [← hR, hx]; simp; omega
        clear hx hR hn
        go_enter Tryd.func12, Tryd.ntmps12
        go_wp2_with fail
        go_ret
        exact ⟨rfl, rfl⟩
      · have hne : ((gi l (n - 1)) != 0) = true := bne_t (fun h => hx (gi_zero.1 h))
        obtain rfl : R = true := by rw [← hR]; exact decide_eq_true ⟨h1, Or.inr hx⟩
        generalize gi l (n - 1) = x at *
        clear hx hR hn
        go_enter Tryd.func12, Tryd.ntmps12
        go_wp2_with fail
        go_ret
        exact ⟨rfl, rfl⟩
  · obtain rfl : R = false := by rw [← hR]; simp; omega
    clear hR hn hS
    go_enter Tryd.func12, Tryd.ntmps12
    go_wp2_with fail
    go_ret
    exact ⟨rfl, rfl⟩
set_option maxRecDepth 100000 in
set_option maxHeartbeats 800000 in
theorem refIs_any (ad : Option Addr) (n c : Nat) (l : List Nat) (hn : l.length = n) (hz : n ≤ 100000) (w : World) (hS : Sl .u16 w ad n (gi l)) :
    Calls Tryd.prog 6 #[.slice ad n c] w fun e w' => e = .returned (.bool (isB l)) ∧ w = w' := by
  obtain ⟨R, hR⟩ : ∃ R, isB l = R := ⟨_, rfl⟩
  rw [hR]
  unfold isB at hR
  rw [hn] at hR
  by_cases h1 : n ≤ 256
  · by_cases h0 : n = 0
    · subst h0
      obtain rfl : R = true := by rw [← hR]; simp
      clear hR hn hS
      go_enter Tryd.func6, Tryd.ntmps6
      go_wp2_with fail
      go_ret
      exact ⟨rfl, rfl⟩
    · obtain ⟨a, rfl, hl, hcell⟩ := hS (n - 1) (by omega)
      have k0 : (1 : Int) ≤ (n : Int) := by omega
      have e0 : ((n : Int) == 0) = false := beq_f (by omega)
      clear hS
      by_cases hx : l.getD (n - 1) 0 = 0
      · rw [gi_zero.2 hx] at hcell
        obtain rfl : R = false := by rw [← hR, hx]; simp; omega
        clear hx hR hn
        go_enter Tryd.func6, Tryd.ntmps6
        go_wp2_with fail
        go_ret
        exact ⟨rfl, rfl⟩
      · have hne : ((gi l (n - 1)) != 0) = true := bne_t (fun h => hx (gi_zero.1 h))
        obtain rfl : R = true := by rw [← hR]; exact decide_eq_true ⟨h1, Or.inr hx⟩
        generalize gi l (n - 1) = x at *
        clear hx hR hn
        go_enter Tryd.func6, Tryd.ntmps6
        go_wp2_with fail
        go_ret
        exact ⟨rfl, rfl⟩
  · obtain rfl : R = false := by rw [← hR]; simp; omega
    clear hR hn hS
    go_enter Tryd.func6, Tryd.ntmps6
    go_wp2_with fail
    go_ret
    exact ⟨rfl, rfl⟩
theorem same_len (a b : List Nat) (h : a.length ≠ b.length) : decide (a = b) = false := decide_eq_false (fun e => h (by rw [e]))
set_option maxRecDepth 100000 in
set_option maxHeartbeats 800000 in
theorem same_any (ad bd : Option Addr) (n c m d : Nat) (a b : List Nat) (hn : a.length = n) (hm : b.length = m) (hz : n ≤ 100000) (hz2 : m ≤ 100000) (w : World) (hS : Sl .u16 w ad n (gi a)) (hT : Sl .u16 w bd m (gi b)) :
    Calls Tryd.prog 8 #[.slice ad n c, .slice bd m d] w fun e w' => e = .returned (.bool (decide (a = b))) ∧ ∃ q, w' = w.drewN q := by
  obtain ⟨R, hR⟩ : ∃ R, decide (a = b) = R := ⟨_, rfl⟩
  rw [hR]
  by_cases hnm : n = m
  · subst hnm
    replace hS := Lib.hid hS
    replace hT := Lib.hid hT
    have HN := Lib.hid hn
    have HM := Lib.hid hm
    have HR := Lib.hid hR
    clear hn hm hR
    go_enter Tryd.func8, Tryd.ntmps8
    go_wp2_with fail
    go_loopw [5] (fun k wr => ∃ K : Nat, K ≤ n ∧ k = .int .i64 K ∧ Hid (a.take K = b.take K) ∧ ∃ m, wr = w.drewN m) (fun k _ => n - (intOf k).toNat)
    case atStart => exact ⟨0, by omega, rfl, Lib.hid rfl, 0, rfl⟩
    case round =>
      obtain ⟨K, hK, rfl, HV, q, rfl⟩ := hrel
      by_cases hK4 : K < n
      · obtain ⟨x, rfl, hl, hcx⟩ := hS.out K hK4
        obtain ⟨y, rfl, hl2, hcy⟩ := hT.out K hK4
        have k0 : (0 : Int) ≤ (K : Int) := by omega
        have k1 : (K : Int) < (n : Int) := by omega
        by_cases hxy : a.getD K 0 = b.getD K 0
        · have hg : gi a K = gi b K := by unfold gi; rw [hxy]
          have HV2 : Hid (a.take (K + 1) = b.take (K + 1)) := Lib.hid (by rw [take_succ_getD a K (by have := HN.out; omega), take_succ_getD b K (by have := HM.out; omega), HV.out, hxy])
          rw [hg] at hcx
          generalize gi b K = v at *
          clear hg hxy
          go_wp2_with fail
          go_quiet (fail)
          go_wp2_with fail
          go_roundw
          case rel => exact ⟨K + 1, by omega, by go_num, HV2, _, rfl⟩
          case measure => simp [intOf]; omega
        · have hg : ((gi a K) != (gi b K)) = true := bne_t (by unfold gi; omega)
          have hr : R = false := by rw [← HR.out]; exact decide_eq_false (fun e => hxy (by rw [e]))
          subst hr
          generalize gi a K = u at *
          generalize gi b K = v at *
          clear hxy
          go_wp2_with fail
          go_quiet (fail)
          go_wp2_with fail
          go_ret
          exact ⟨rfl, dq1 _ _ _⟩
      · have hr : R = true := by
          rw [← HR.out]
          have h := HV.out
          rw [take_all (by have := HN.out; omega), take_all (by have := HM.out; omega)] at h
          exact decide_eq_true h
        subst hr
        go_wp2_with fail
        go_ret
        exact ⟨rfl, _, rfl⟩
  · obtain rfl : R = false := by rw [← hR]; exact same_len a b (by omega)
    have hq : ((n : Int) != (m : Int)) = true := bne_t (by omega)
    clear hR hS hT hn hm
    go_enter Tryd.func8, Tryd.ntmps8
    go_wp2_with fail
    go_ret
    exact ⟨rfl, 0, rfl⟩
set_option maxRecDepth 100000 in
set_option maxHeartbeats 1600000 in
theorem bigCmp0_any (ad bd : Option Addr) (n c m d : Nat) (a b : List Nat) (hn : a.length = n) (hm : b.length = m) (hz : n ≤ 100000) (hz2 : m ≤ 100000) (da : DigL a) (db : DigL b) (w : World) (hS : Sl .u16 w ad n (gi a)) (hT : Sl .u16 w bd m (gi b)) :
    Calls Tryd.prog 14 #[.slice ad n c, .slice bd m d] w fun e w' => e = .returned (.int .i64 (cmpL a b)) ∧ ∃ q, w' = w.drewN q := by
  obtain ⟨R, hR⟩ : ∃ R, cmpL a b = R := ⟨_, rfl⟩
  rw [hR]
  by_cases hnm : n = m
  · subst hnm
    replace hS := Lib.hid hS
    replace hT := Lib.hid hT
    have HR := Lib.hid (show (if valL a < valL b then -1 else if valL b < valL a then 1 else (0 : Int)) = R by
      rw [← hR]; unfold cmpL; rw [if_neg (show ¬ a.length < b.length by omega), if_neg (show ¬ b.length < a.length by omega)])
    have LT := Lib.hid (fun (K : Nat) (hK : K < n) (e : a.drop (K + 1) = b.drop (K + 1)) (h : a.getD K 0 < b.getD K 0) => val_cmp da db (by omega) (by omega) e h)
    have GT := Lib.hid (fun (K : Nat) (hK : K < n) (e : b.drop (K + 1) = a.drop (K + 1)) (h : b.getD K 0 < a.getD K 0) => val_cmp db da (by omega) (by omega) e h)
    have ST := Lib.hid (fun (K : Nat) (hK : K < n) (e : a.drop (K + 1) = b.drop (K + 1)) (h : a.getD K 0 = b.getD K 0) => drop_step (a := a) (b := b) (by omega) (by omega) e h)
    have E0 := Lib.hid (show a.drop n = b.drop n by rw [List.drop_of_length_le (by omega), List.drop_of_length_le (by omega)])
    clear hn hm hR da db
    go_enter Tryd.func14, Tryd.ntmps14
    go_wp2_with fail
    go_loopw [5] (fun k wr => ∃ K : Nat, K ≤ n ∧ k = .int .i64 ((K : Int) - 1) ∧ Hid (a.drop K = b.drop K) ∧ ∃ m, wr = w.drewN m) (fun k _ => (intOf k + 1).toNat)
    case atStart => exact ⟨n, by omega, rfl, E0, 0, rfl⟩
    case round =>
      obtain ⟨K', hK, rfl, HV, q, rfl⟩ := hrel
      rcases (show K' = 0 ∨ ∃ K, K' = K + 1 by cases K' with | zero => exact Or.inl rfl | succ K => exact Or.inr ⟨K, rfl⟩) with rfl | ⟨K, rfl⟩
      · have hr : R = 0 := by
          rw [← HR.out]
          have h := HV.out
          rw [List.drop_zero, List.drop_zero] at h
          rw [h, if_neg (Nat.lt_irrefl _), if_neg (Nat.lt_irrefl _)]
        subst hr
        go_wp2_with fail
        go_ret
        exact ⟨rfl, _, rfl⟩
      · obtain ⟨x, rfl, hl, hcx⟩ := hS.out K (by omega)
        obtain ⟨y, rfl, hl2, hcy⟩ := hT.out K (by omega)
        have k0 : (0 : Int) ≤ (K : Int) := by omega
        have k1 : (K : Int) < (n : Int) := by omega
        have k2 : ((K + 1 : Nat) : Int) - 1 = (K : Int) := by omega
        rw [k2]
        clear k2
        by_cases hxy : a.getD K 0 = b.getD K 0
        · have hg : gi a K = gi b K := by unfold gi; rw [hxy]
          have HV2 : Hid (a.drop K = b.drop K) := Lib.hid (ST.out K (by omega) HV.out hxy)
          rw [hg] at hcx
          generalize gi b K = v at *
          clear hg hxy
          go_wp2_with fail
          go_quiet (fail)
          go_wp2_with fail
          go_roundw
          case rel => exact ⟨K, by omega, rfl, HV2, _, rfl⟩
          case measure => first | (simp [intOf]; done) | (simp [intOf]; omega)
        · have hg : ((gi a K) != (gi b K)) = true := bne_t (by unfold gi; omega)
          by_cases hlt : a.getD K 0 < b.getD K 0
          · have hg2 : gi a K < gi b K := by unfold gi; omega
            have hd : decide (gi a K < gi b K) = true := decide_eq_true hg2
            have hr : R = -1 := by rw [← HR.out, if_pos (LT.out K (by omega) HV.out hlt)]
            subst hr
            generalize gi a K = u at *
            generalize gi b K = v at *
            clear hxy hlt
            go_wp2_with fail
            go_quiet (fail)
            go_wp2_with fail
            go_quiet (fail)
            go_wp2_with fail
            go_ret
            exact ⟨rfl, dq2 _ _ _ _⟩
          · have hg2 : ¬ gi a K < gi b K := by unfold gi; omega
            have hd : decide (gi a K < gi b K) = false := decide_eq_false hg2
            have hr : R = 1 := by
              have h := GT.out K (by omega) HV.out.symm (by omega)
              rw [← HR.out, if_neg (by omega), if_pos h]
            subst hr
            generalize gi a K = u at *
            generalize gi b K = v at *
            clear hxy hlt
            go_wp2_with fail
            go_quiet (fail)
            go_wp2_with fail
            go_quiet (fail)
            go_wp2_with fail
            go_ret
            exact ⟨rfl, dq2 _ _ _ _⟩
  · have hq : ((n : Int) != (m : Int)) = true := bne_t (by omega)
    by_cases hlt : n < m
    · obtain rfl : R = -1 := by rw [← hR]; unfold cmpL; rw [if_pos (by omega)]
      have hq2 : (n : Int) < (m : Int) := by omega
      clear hR hS hT hn hm
      go_enter Tryd.func14, Tryd.ntmps14
      go_wp2_with fail
      go_ret
      exact ⟨rfl, 0, rfl⟩
    · obtain rfl : R = 1 := by rw [← hR]; unfold cmpL; rw [if_neg (by omega), if_pos (by omega)]
      have hq2 : ¬ (n : Int) < (m : Int) := by omega
      clear hR hS hT hn hm
      go_enter Tryd.func14, Tryd.ntmps14
      go_wp2_with fail
      go_ret
      exact ⟨rfl, 0, rfl⟩
set_option maxRecDepth 100000 in
set_option maxHeartbeats 1600000 in
theorem refCmp_any (ad bd : Option Addr) (n c m d : Nat) (a b : List Nat) (hn : a.length = n) (hm : b.length = m) (hz : n ≤ 100000) (hz2 : m ≤ 100000) (da : DigL a) (db : DigL b) (w : World) (hS : Sl .u16 w ad n (gi a)) (hT : Sl .u16 w bd m (gi b)) :
    Calls Tryd.prog 7 #[.slice ad n c, .slice bd m d] w fun e w' => e = .returned (.int .i64 (cmpL a b)) ∧ ∃ q, w' = w.drewN q := by
  obtain ⟨R, hR⟩ : ∃ R, cmpL a b = R := ⟨_, rfl⟩
  rw [hR]
  by_cases hnm : n = m
  · subst hnm
    replace hS := Lib.hid hS
    replace hT := Lib.hid hT
    have HR := Lib.hid (show (if valL a < valL b then -1 else if valL b < valL a then 1 else (0 : Int)) = R by
      rw [← hR]; unfold cmpL; rw [if_neg (show ¬ a.length < b.length by omega), if_neg (show ¬ b.length < a.length by omega)])
    have LT := Lib.hid (fun (K : Nat) (hK : K < n) (e : a.drop (K + 1) = b.drop (K + 1)) (h : a.getD K 0 < b.getD K 0) => val_cmp da db (by omega) (by omega) e h)
    have GT := Lib.hid (fun (K : Nat) (hK : K < n) (e : b.drop (K + 1) = a.drop (K + 1)) (h : b.getD K 0 < a.getD K 0) => val_cmp db da (by omega) (by omega) e h)
    have ST := Lib.hid (fun (K : Nat) (hK : K < n) (e : a.drop (K + 1) = b.drop (K + 1)) (h : a.getD K 0 = b.getD K 0) => drop_step (a := a) (b := b) (by omega) (by omega) e h)
    have E0 := Lib.hid (show a.drop n = b.drop n by rw [List.drop_of_length_le (by omega), List.drop_of_length_le (by omega)])
    clear hn hm hR da db
    go_enter Tryd.func7, Tryd.ntmps7
    go_wp2_with fail
    go_loopw [5] (fun k wr => ∃ K : Nat, K ≤ n ∧ k = .int .i64 ((K : Int) - 1) ∧ Hid (a.drop K = b.drop K) ∧ ∃ m, wr = w.drewN m) (fun k _ => (intOf k + 1).toNat)
    case atStart => exact ⟨n, by omega, rfl, E0, 0, rfl⟩
    case round =>
      obtain ⟨K', hK, rfl, HV, q, rfl⟩ := hrel
      rcases (show K' = 0 ∨ ∃ K, K' = K + 1 by cases K' with | zero => exact Or.inl rfl | succ K => exact Or.inr ⟨K, rfl⟩) with rfl | ⟨K, rfl⟩
      · have hr : R = 0 := by
          rw [← HR.out]
          have h := HV.out
          rw [List.drop_zero, List.drop_zero] at h
          rw [h, if_neg (Nat.lt_irrefl _), if_neg (Nat.lt_irrefl _)]
        subst hr
        go_wp2_with fail
        go_ret
        exact ⟨rfl, _, rfl⟩
      · obtain ⟨x, rfl, hl, hcx⟩ := hS.out K (by omega)
        obtain ⟨y, rfl, hl2, hcy⟩ := hT.out K (by omega)
        have k0 : (0 : Int) ≤ (K : Int) := by omega
        have k1 : (K : Int) < (n : Int) := by omega
        have k2 : ((K + 1 : Nat) : Int) - 1 = (K : Int) := by omega
        rw [k2]
        clear k2
        by_cases hxy : a.getD K 0 = b.getD K 0
        · have hg : gi a K = gi b K := by unfold gi; rw [hxy]
          have HV2 : Hid (a.drop K = b.drop K) := Lib.hid (ST.out K (by omega) HV.out hxy)
          rw [hg] at hcx
          generalize gi b K = v at *
          clear hg hxy
          go_wp2_with fail
          go_quiet (fail)
          go_wp2_with fail
          go_roundw
          case rel => exact ⟨K, by omega, rfl, HV2, _, rfl⟩
          case measure => first | (simp [intOf]; done) | (simp [intOf]; omega)
        · have hg : ((gi a K) != (gi b K)) = true := bne_t (by unfold gi; omega)
          by_cases hlt : a.getD K 0 < b.getD K 0
          · have hg2 : gi a K < gi b K := by unfold gi; omega
            have hd : decide (gi a K < gi b K) = true := decide_eq_true hg2
            have hr : R = -1 := by rw [← HR.out, if_pos (LT.out K (by omega) HV.out hlt)]
            subst hr
            generalize gi a K = u at *
            generalize gi b K = v at *
            clear hxy hlt
            go_wp2_with fail
            go_quiet (fail)
            go_wp2_with fail
            go_quiet (fail)
            go_wp2_with fail
            go_ret
            exact ⟨rfl, dq2 _ _ _ _⟩
          · have hg2 : ¬ gi a K < gi b K := by unfold gi; omega
            have hd : decide (gi a K < gi b K) = false := decide_eq_false hg2
            have hr : R = 1 := by
              have h := GT.out K (by omega) HV.out.symm (by omega)
              rw [← HR.out, if_neg (by omega), if_pos h]
            subst hr
            generalize gi a K = u at *
            generalize gi b K = v at *
            clear hxy hlt
            go_wp2_with fail
            go_quiet (fail)
            go_wp2_with fail
            go_quiet (fail)
            go_wp2_with fail
            go_ret
            exact ⟨rfl, dq2 _ _ _ _⟩
  · have hq : ((n : Int) != (m : Int)) = true := bne_t (by omega)
    by_cases hlt : n < m
    · obtain rfl : R = -1 := by rw [← hR]; unfold cmpL; rw [if_pos (by omega)]
      have hq2 : (n : Int) < (m : Int) := by omega
      clear hR hS hT hn hm
      go_enter Tryd.func7, Tryd.ntmps7
      go_wp2_with fail
      go_ret
      exact ⟨rfl, 0, rfl⟩
    · obtain rfl : R = 1 := by rw [← hR]; unfold cmpL; rw [if_neg (by omega), if_pos (by omega)]
      have hq2 : ¬ (n : Int) < (m : Int) := by omega
      clear hR hS hT hn hm
      go_enter Tryd.func7, Tryd.ntmps7
      go_wp2_with fail
      go_ret
      exact ⟨rfl, 0, rfl⟩
end Go.Proofs.YtogmmhacjndebaaDoor
