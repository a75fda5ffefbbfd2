/- Contracts of both Of and of big.more. Conditions: as each says. Contracts of both Bits and of big.Small. Conditions: as each says. Contracts of big.up and the reference's Up. Conditions: as each says. Contracts of both Power. No condition. The contract of big.Up. Conditions: as each says. -/
import Derived.Test.YtogmmhacjndebaaDoorN14
import Derived.Outline
import Derived.Lib.BitFns
import Derived.Laws.BitsAllLaws
import Derived.Deep.AppendLies
import Derived.Deep.RegionLaw
import Derived.Deep.OwnRows
namespace Go.Proofs.YtogmmhacjndebaaDoor
section
open Go.RowKit
set_option linter.unusedSimpArgs false
set_option linter.unusedVariables false
attribute [local irreducible] Fl.K
set_option maxHeartbeats 1600000 in
set_option maxRecDepth 100000 in
theorem bigOf_any (V : Nat) (x : Int) (hx : x = (V : Int)) (x1 : x ≤ 18446744073709551615) (w : World) :
    Calls Tryd.prog 17 #[.int .u64 x] w (RetU (dg V) w) := by
  obtain ⟨i0, hi, iz0, iz1, iz2⟩ := info_parts info_u16
  have hV0 : 0 ≤ x := by omega
  obtain ⟨R, hR⟩ : ∃ R, dg V = R := ⟨_, rfl⟩
  rw [hR]
  have H0 : Hid (R = [] ++ dg x.toNat) := Lib.hid (by rw [List.nil_append, hx, Int.toNat_natCast, hR])
  clear hx hR
  go_enter Tryd.func17, Tryd.ntmps17
  go_wp2_with fail
  go_loopw [0, 3] (fun s p wr => ∃ (y : Int) (l : List Nat), s = .int .u64 y ∧ OwnU wr w.heap.size p l ∧ 0 ≤ y ∧ ((y ≤ 18446744073709551615 ∧ l.length ≤ 0) ∨ (y ≤ 281474976710655 ∧ l.length ≤ 1) ∨ (y ≤ 4294967295 ∧ l.length ≤ 2) ∨ (y ≤ 65535 ∧ l.length ≤ 3) ∨ (y ≤ 0 ∧ l.length ≤ 4)) ∧ Hid (R = l ++ dg y.toNat) ∧ Below w.heap.size w wr) (fun s _ _ => (intOf s).toNat)
  case atStart => exact ⟨x, [], rfl, OwnU.nil _ _, hV0, Or.inl ⟨x1, Nat.le_refl _⟩, H0, Below.refl _ _⟩
  case round =>
    clear H0 hV0 x1
    obtain ⟨y, l, rfl, hown, y0, hy, HL, hbw⟩ := hrel
    obtain ⟨wo, rfl⟩ : ∃ wo : World, wo = wr := ⟨_, rfl⟩
    have hzo := hbw.size
    replace hown := Lib.hid hown
    have hl4 : l.length ≤ 4 := by omega
    by_cases hy0 : 0 < y
    · have HL2 : Hid (R = (l ++ [(y % 65536).toNat]) ++ dg (y / 65536).toNat) := Lib.hid (by
        rw [HL.out, dg_pos (n := y.toNat) (by omega), List.append_assoc]
        congr 2
        · omega
        · congr 1; omega)
      have HY : Hid ((y / 65536 ≤ 18446744073709551615 ∧ (l ++ [(y % 65536).toNat]).length ≤ 0) ∨ (y / 65536 ≤ 281474976710655 ∧ (l ++ [(y % 65536).toNat]).length ≤ 1) ∨ (y / 65536 ≤ 4294967295 ∧ (l ++ [(y % 65536).toNat]).length ≤ 2) ∨ (y / 65536 ≤ 65535 ∧ (l ++ [(y % 65536).toNat]).length ≤ 3) ∨ (y / 65536 ≤ 0 ∧ (l ++ [(y % 65536).toNat]).length ≤ 4)) := Lib.hid (by
        rw [List.length_append, List.length_singleton]; omega)
      have HY0 : Hid (0 ≤ y / 65536) := Lib.hid (by omega)
      have eW : IntKind.u16.wrap (y) = y % 65536 := by rw [IntKind.wrap_u16]; try omega
      have y1 : y ≤ 18446744073709551615 := by omega
      clear hy
      go_wp2_with (at_builtin; refine wpList_append_own _ rfl _ _ 23 rfl w.heap.size 31 i0 (.int .u16 0) 1 2 Tryd.underlying23 hi iz0 iz1 iz2 rfl (by decide) _ _ _ rfl (hown.out.alloc _) ⟨wo.heap.size, 0, none⟩ 1 1 [.int .u16 (y % 65536)] rfl rfl (cell_one_new _ _ _) one_u16 (by unfold maxLen; omega) (by omega) (by first | assumption | (simp; omega)) ?_; intro v5 w5 hown5 hgrow5 _)
      have hw5 : Below w.heap.size w w5 := Below.grown (hbw.alloc (by first | assumption | omega) _) hgrow5 (by first | assumption | (simp; omega)) (fun k hk => own_lt hown.out k hk)
      clear hgrow5
      have O5 := Lib.hid (own_app (d := (y % 65536).toNat) (by omega) hown5)
      clear hown5
      go_wp2_with fail
      go_roundw
      case rel => exact ⟨y / 65536, _, rfl, O5.out, HY0.out, HY.out, HL2, hw5⟩
      case measure => first | (simp [intOf]; done) | (simp [intOf]; omega)
    · obtain rfl : y = 0 := by omega
      have hRl : l = R := by rw [HL.out, show dg (0 : Int).toNat = [] from dg_zero, List.append_nil]
      subst hRl
      clear HL
      go_wp2_with fail
      go_ret
      exact ret_own hown.out hbw
def moC (a : List Nat) (b c : Nat) : Nat → Nat
  | 0 => c
  | i + 1 => (moC a b c i + a.getD i 0 * b) / 65536
def moD (a : List Nat) (b c i : Nat) : Nat := (moC a b c i + a.getD i 0 * b) % 65536
theorem moC_le {a : List Nat} {b c : Nat} (ha : DigL a) (hb : b ≤ 65535) (hc : c ≤ 65535) : ∀ i, moC a b c i ≤ 65535
  | 0 => hc
  | i + 1 => by
    have h1 := moC_le ha hb hc i
    have h2 := ha.getD i
    have h3 := Nat.mul_le_mul (show a.getD i 0 ≤ 65535 by omega) hb
    rw [moC]; omega
theorem mo_val (a : List Nat) (b c : Nat) : ∀ k, valL ((List.range k).map (moD a b c)) + 65536 ^ k * moC a b c k = valL (a.take k) * b + c
  | 0 => by simp [moC, valL]
  | k + 1 => by
    have ih := mo_val a b c k
    rw [range_succ_map, val_snoc, List.length_map, List.length_range, val_take_succ', moC, Nat.pow_succ, Nat.mul_assoc]
    have e : 65536 ^ k * (moC a b c k + a.getD k 0 * b) = 65536 ^ k * moD a b c k + 65536 ^ k * (65536 * ((moC a b c k + a.getD k 0 * b) / 65536)) := by
      rw [← Nat.mul_add]; congr 1; unfold moD; omega
    rw [Nat.mul_add] at e
    rw [Nat.add_mul, Nat.mul_assoc (65536 ^ k)]
    omega
def moL (a : List Nat) (b c : Nat) : List Nat := (List.range a.length).map (moD a b c) ++ if moC a b c a.length = 0 then [] else [moC a b c a.length]
theorem moL_dg {a : List Nat} {b c : Nat} (ha : Can a) (hb0 : 1 ≤ b) (hb : b ≤ 65535) (hc : c ≤ 65535) : moL a b c = dg (valL a * b + c) := by
  have hv := mo_val a b c a.length
  have hle := moC_le ha.1 hb hc a.length
  rw [take_all (Nat.le_refl _)] at hv
  have hval : valL (moL a b c) = valL a * b + c := by
    unfold moL
    rw [val_app, List.length_map, List.length_range]
    split
    · next h => rw [h] at hv; simp [valL] at *; omega
    · rw [val_one]; exact hv
  have hdig : DigL (moL a b c) := by
    unfold moL
    refine (DigL.map _ _ (fun i _ => by unfold moD; omega)).app ?_
    split
    · exact DigL.nil
    · exact DigL.nil.cons (by omega)
  rw [← hval]
  refine (dg_val (can_of_ge hdig ?_)).symm
  by_cases h : moC a b c a.length = 0
  · have hl : (moL a b c).length = a.length := by unfold moL; rw [if_pos h]; simp
    rw [hl]
    by_cases h0 : a.length = 0
    · exact Or.inl h0
    · right
      rw [hval]
      have h1 := ha.ge h0
      have h2 := Nat.le_mul_of_pos_right (valL a) hb0
      omega
  · right
    have hl : (moL a b c).length = a.length + 1 := by unfold moL; rw [if_neg h]; simp
    rw [hl]
    unfold moL
    rw [if_neg h, val_snoc, List.length_map, List.length_range, Nat.add_sub_cancel]
    have := Nat.mul_le_mul_left (65536 ^ a.length) (show 1 ≤ moC a b c a.length by omega)
    omega
end
section
open Go.RowKit
set_option linter.unusedSimpArgs false
set_option linter.unusedVariables false
attribute [local irreducible] Fl.K
end
section
open Go.RowKit
set_option linter.unusedSimpArgs false
set_option linter.unusedVariables false
attribute [local irreducible] Fl.K
theorem or32b (s : Nat) (x u P : Int) (hs : s ≤ 15) (hP : P = 2 ^ s) (x0 : 0 ≤ x) (x1 : x < P) (u0 : 0 ≤ u) (u1 : u ≤ 65535) : bits .or .u32 x (u * P) = x + u * P ∧ 0 ≤ u * P ∧ u * P ≤ 2147450880 := by
  subst hP
  have hp : (1 : Int) ≤ 2 ^ s := by
    have := Nat.one_le_two_pow (n := s)
    have e : ((2 : Int) ^ s) = ((2 ^ s : Nat) : Int) := by rw [Int.natCast_pow]; rfl
    rw [e]; omega
  have hp2 : (2 : Int) ^ s ≤ 32768 := by
    have h := Nat.pow_le_pow_right (n := 2) (by decide) hs
    have e : ((2 : Int) ^ s) = ((2 ^ s : Nat) : Int) := by rw [Int.natCast_pow]; rfl
    rw [e]
    have h2 : 2 ^ 15 = 32768 := rfl
    omega
  have h1 : 0 ≤ u * 2 ^ s := Int.mul_nonneg u0 (by omega)
  have h2 : u * 2 ^ s ≤ 65535 * 32768 := Int.mul_le_mul u1 hp2 (by omega) (by decide)
  refine ⟨?_, h1, by omega⟩
  obtain ⟨m, hm⟩ := Int.eq_ofNat_of_zero_le h1
  obtain ⟨n, rfl⟩ := Int.eq_ofNat_of_zero_le x0
  have e : ((2 : Int) ^ s) = ((2 ^ s : Nat) : Int) := by rw [Int.natCast_pow]; rfl
  have hmod : m % 2 ^ s = 0 := by
    have h3 : (u * 2 ^ s) % 2 ^ s = 0 := Int.mul_emod_left _ _
    rw [hm, e] at h3
    omega
  rw [hm, u32_or_nat n m (by omega) (by omega), Nat.or_comm, nat_join s m n hmod (by rw [e] at x1; omega), Int.natCast_add, Int.add_comm]
theorem moC_lt {a : List Nat} {b c : Nat} (ha : DigL a) (hb : 0 < b) (hc : c < b) : ∀ i, moC a b c i < b
  | 0 => hc
  | i + 1 => by
    have h1 := moC_lt ha hb hc i
    have h2 := ha.getD i
    rw [moC, Nat.div_lt_iff_lt_mul (by decide)]
    have h3 := Nat.mul_le_mul_right b (show a.getD i 0 ≤ 65535 by omega)
    have h4 : b * 65536 = 65535 * b + b := by omega
    omega
set_option maxHeartbeats 3200000 in
set_option maxRecDepth 100000 in
theorem up_any (ad : Option Addr) (n c : Nat) (a : List Nat) (s : Nat) (S : Int) (hS' : S = (s : Int)) (hs : s ≤ 15) (hn : a.length = n) (hz : n ≤ 2000) (ha : Can a) (w : World) (hS : Sl .u16 w ad n (gi a)) :
    Calls Tryd.prog 20 #[.slice ad n c, .int .i64 S] w (RetO (dg (valL a * 2 ^ s)) w) := by
  obtain ⟨i0, hi, iz0, iz1, iz2⟩ := info_parts info_u16
  have hp1 : 1 ≤ 2 ^ s := Nat.one_le_two_pow
  have hp2 : 2 ^ s ≤ 32768 := Nat.pow_le_pow_right (n := 2) (by decide) hs
  obtain ⟨q, hq⟩ : ∃ q, 2 ^ s = q := ⟨_, rfl⟩
  obtain ⟨P, hP⟩ : ∃ P : Int, (2 : Int) ^ s = P := ⟨_, rfl⟩
  have hPq : P = (q : Int) := by rw [← hP, ← hq, Int.natCast_pow]; rfl
  have OR := Lib.hid (fun x u => or32b s x u P hs hP.symm)
  have hps : (2 : Int) ^ S.toNat = P := by rw [hS', Int.toNat_natCast, hP]
  have S0 : 0 ≤ S := by omega
  have S1 : S ≤ 15 := by omega
  have S2 : S ≤ 32 := by omega
  rw [hq] at hp1 hp2 ⊢
  obtain ⟨R, hR⟩ : ∃ R, dg (valL a * q) = R := ⟨_, rfl⟩
  rw [hR]
  have HR : Hid (moL a q 0 = R) := Lib.hid (by rw [moL_dg ha hp1 (by omega) (by decide), Nat.add_zero, hR])
  have HS := Lib.hid hS
  have HN := Lib.hid hn
  have HI := Lib.hid (fun K => gi_bd ha.1 K)
  have HCL := Lib.hid (fun K => moC_lt ha.1 (b := q) (c := 0) (by omega) (by omega) K)
  have HPq := Lib.hid hPq
  have hPs := Lib.hid hP
  clear hS hn ha hR hS' hq hP hPq hs
  go_enter Tryd.func20, Tryd.ntmps20
  go_wp2_with fail
  go_loopw [5, 6, 11] (fun p r i wr => ∃ (K : Nat) (x : Int) (l : List Nat), K ≤ n ∧ i = .int .i64 K ∧ r = .int .u32 x ∧ OwnU wr w.heap.size p l ∧ l.length ≤ K ∧ Hid (l = (List.range K).map (moD a q 0)) ∧ Hid (x = ((moC a q 0 K : Nat) : Int)) ∧ 0 ≤ x ∧ x ≤ 32767 ∧ Below w.heap.size w wr) (fun _ _ i _ => n - (intOf i).toNat)
  case atStart => exact ⟨0, 0, [], Nat.zero_le _, rfl, rfl, OwnU.nil _ _, Nat.le_refl _, Lib.hid rfl, Lib.hid rfl, by decide, by decide, Below.refl _ _⟩
  case round =>
    obtain ⟨K, x, l, hK, rfl, rfl, hown, hl, HL, hx, x0, x1, hbw⟩ := hrel
    obtain ⟨wo, rfl⟩ : ∃ wo : World, wo = wr := ⟨_, rfl⟩
    have hzo := hbw.size
    replace hown := Lib.hid hown
    by_cases hK4 : K < n
    · obtain ⟨ax, rfl, hax, hcx⟩ := HS.out.beyond hbw K hK4
      have bx := HI.out K
      have hmax := HCL.out (K + 1)
      have hmax0 := HCL.out K
      obtain ⟨o1, o2, o3⟩ := OR.out x (gi a K) x0 (by rw [hx.out, HPq.out]; omega) bx.1 bx.2
      obtain ⟨pr, hpr⟩ : ∃ pr : Int, gi a K * P = pr := ⟨_, rfl⟩
      have hprn : pr = ((a.getD K 0 * q : Nat) : Int) := by rw [← hpr, HPq.out, Int.natCast_mul]; rfl
      rw [hpr] at o1 o2 o3
      obtain ⟨v, hv⟩ : ∃ v : Int, v = x + pr := ⟨_, rfl⟩
      have hD : Hid (v % 65536 = ((moD a q 0 K : Nat) : Int)) := Lib.hid (by rw [hv, hx.out, hprn]; unfold moD; omega)
      have hC : Hid (v / 65536 = ((moC a q 0 (K + 1) : Nat) : Int)) := Lib.hid (by rw [hv, hx.out, hprn, moC]; omega)
      have HC2 : Hid (0 ≤ v / 65536 ∧ v / 65536 ≤ 32767) := Lib.hid (by rw [hC.out]; omega)
      have HL2 : Hid (l ++ [moD a q 0 K] = (List.range (K + 1)).map (moD a q 0)) := Lib.hid (by rw [range_succ_map, HL.out])
      have hl2 : Hid ((l ++ [moD a q 0 K]).length ≤ K + 1) := Lib.hid (by rw [List.length_append, List.length_singleton]; omega)
      generalize gi a K = u at *
      obtain ⟨u0, u1⟩ := bx
      have ew1 : IntKind.u32.wrap (u * P) = pr := by rw [hpr]; exact IntWalk.u32_in _ (by omega)
      have ew2 : IntKind.u32.wrap u = u := IntWalk.u32_in _ (by omega)
      rw [← hv] at o1
      have v0 : 0 ≤ v := by omega
      have v1 : v ≤ 2147483647 := by omega
      have eW : IntKind.u16.wrap v = v % 65536 := IntKind.wrap_u16 v
      clear hprn hv hmax hmax0
      go_wp2_with (at_builtin; refine wpList_append_own _ rfl _ _ 23 rfl w.heap.size 31 i0 (.int .u16 0) 1 2 Tryd.underlying23 hi iz0 iz1 iz2 rfl (by decide) _ _ _ rfl (hown.out.alloc _) ⟨wo.heap.size, 0, none⟩ 1 1 [.int .u16 (v % 65536)] rfl rfl (cell_one_new _ _ _) one_u16 (by unfold maxLen; omega) (by omega) (by first | assumption | (simp; omega)) ?_; intro v5 w5 hown5 hgrow5 _)
      have hw5 : Below w.heap.size w w5 := Below.grown (hbw.alloc (by first | assumption | omega) _) hgrow5 (by first | assumption | (simp; omega)) (fun k hk => own_lt hown.out k hk)
      clear hgrow5
      have O5 := Lib.hid (own_app (d := moD a q 0 K) (hD.out) hown5)
      clear hown5
      go_wp2_with fail
      go_roundw
      case rel => exact ⟨K + 1, v / 65536, l ++ [moD a q 0 K], by omega, by go_num, by first | rfl | (simp; done), O5.out, hl2.out, HL2, hC, HC2.out.1, HC2.out.2, hw5⟩
      case measure => first | (simp [intOf]; done) | (simp [intOf]; omega)
    · obtain rfl : K = n := by omega
      have hRR := HR.out
      unfold moL at hRR
      rw [HN.out] at hRR
      by_cases hx0 : x = 0
      · subst hx0
        rw [if_pos (by have := hx.out; omega), List.append_nil, ← HL.out] at hRR
        subst hRR
        clear HL HR hx
        go_wp2_with fail
        go_ret
        exact ⟨_, rfl, hown.out, hbw⟩
      · rw [if_neg (by have := hx.out; omega), ← HL.out] at hRR
        have xp : 0 < x := by omega
        have HRR := Lib.hid hRR
        have eW : IntKind.u16.wrap x = x := by rw [IntKind.wrap_u16]; omega
        clear hRR HR
        go_wp2_with (at_builtin; refine wpList_append_own _ rfl _ _ 23 rfl w.heap.size 31 i0 (.int .u16 0) 1 2 Tryd.underlying23 hi iz0 iz1 iz2 rfl (by decide) _ _ _ rfl (hown.out.alloc _) ⟨wo.heap.size, 0, none⟩ 1 1 [.int .u16 (x)] rfl rfl (cell_one_new _ _ _) one_u16 (by unfold maxLen; omega) (by omega) (by first | assumption | (simp; omega)) ?_; intro v5 w5 hown5 hgrow5 _)
        have hw5 : Below w.heap.size w w5 := Below.grown (hbw.alloc (by first | assumption | omega) _) hgrow5 (by first | assumption | (simp; omega)) (fun k hk => own_lt hown.out k hk)
        clear hgrow5
        have O5 := Lib.hid (own_app (d := moC a q 0 K) (hx.out) hown5)
        clear hown5
        go_wp2_with fail
        go_ret
        have h9 := O5.out
        rw [HRR.out] at h9
        exact ⟨_, rfl, h9, hw5⟩
end
section
open Go.RowKit
set_option linter.unusedSimpArgs false
set_option linter.unusedVariables false
attribute [local irreducible] Fl.K
end
section
open Go.RowKit
set_option linter.unusedSimpArgs false
set_option linter.unusedVariables false
attribute [local irreducible] Fl.K
end
end Go.Proofs.YtogmmhacjndebaaDoor
