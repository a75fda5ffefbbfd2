/- Contracts of both Of and of big.more. Conditions: as each says. Contracts of both Bits and of big.Small. Conditions: as each says. Contracts of big.up and the reference's Up. Conditions: as each says. Contracts of both Power. No condition. The contract of big.Up. Conditions: as each says. -/
import Derived.Test.YthlpimdpgmknoaaDoorN14
import Derived.Outline
import Derived.Lib.BitFns
import Derived.Laws.BitsAllLaws
import Derived.Test.YthlpimdpgmknoaaDoorNM
import Derived.Deep.AppendLies
import Derived.Deep.RegionLaw
import Derived.Deep.OwnRows
namespace Go.Proofs.YthlpimdpgmknoaaDoor
section
open Go.RowKit
set_option linter.unusedSimpArgs false
set_option linter.unusedVariables false
attribute [local irreducible] Fl.K
set_option maxHeartbeats 1600000 in
set_option maxRecDepth 100000 in
theorem bigOf_any (V : Nat) (x : Int) (hx : x = (V : Int)) (x1 : x ≤ 18446744073709551615) (w : World) :
    Calls Tryd.prog 17 #[.int .u64 x] w (RetU (dg V) w) := by
  obtain ⟨i0, hi, iz0, iz1, iz2⟩ := info_parts info_u16
  have hV0 : 0 ≤ x := by omega
  obtain ⟨R, hR⟩ : ∃ R, dg V = R := ⟨_, rfl⟩
  rw [hR]
  have H0 : Hid (R = [] ++ dg x.toNat) := Lib.hid (by rw [List.nil_append, hx, Int.toNat_natCast, hR])
  clear hx hR
  go_enter Tryd.func17, Tryd.ntmps17
  go_wp2_with fail
  go_loopw [0, 3] (fun s p wr => ∃ (y : Int) (l : List Nat), s = .int .u64 y ∧ OwnU wr w.heap.size p l ∧ 0 ≤ y ∧ ((y ≤ 18446744073709551615 ∧ l.length ≤ 0) ∨ (y ≤ 281474976710655 ∧ l.length ≤ 1) ∨ (y ≤ 4294967295 ∧ l.length ≤ 2) ∨ (y ≤ 65535 ∧ l.length ≤ 3) ∨ (y ≤ 0 ∧ l.length ≤ 4)) ∧ Hid (R = l ++ dg y.toNat) ∧ Below w.heap.size w wr) (fun s _ _ => (intOf s).toNat)
  case atStart => exact ⟨x, [], rfl, OwnU.nil _ _, hV0, Or.inl ⟨x1, Nat.le_refl _⟩, H0, Below.refl _ _⟩
  case round =>
    clear H0 hV0 x1
    obtain ⟨y, l, rfl, hown, y0, hy, HL, hbw⟩ := hrel
    obtain ⟨wo, rfl⟩ : ∃ wo : World, wo = wr := ⟨_, rfl⟩
    have hzo := hbw.size
    replace hown := Lib.hid hown
    have hl4 : l.length ≤ 4 := by omega
    by_cases hy0 : 0 < y
    · have HL2 : Hid (R = (l ++ [(y % 65536).toNat]) ++ dg (y / 65536).toNat) := Lib.hid (by
        rw [HL.out, dg_pos (n := y.toNat) (by omega), List.append_assoc]
        congr 2
        · omega
        · congr 1; omega)
      have HY : Hid ((y / 65536 ≤ 18446744073709551615 ∧ (l ++ [(y % 65536).toNat]).length ≤ 0) ∨ (y / 65536 ≤ 281474976710655 ∧ (l ++ [(y % 65536).toNat]).length ≤ 1) ∨ (y / 65536 ≤ 4294967295 ∧ (l ++ [(y % 65536).toNat]).length ≤ 2) ∨ (y / 65536 ≤ 65535 ∧ (l ++ [(y % 65536).toNat]).length ≤ 3) ∨ (y / 65536 ≤ 0 ∧ (l ++ [(y % 65536).toNat]).length ≤ 4)) := Lib.hid (by
        rw [List.length_append, List.length_singleton]; omega)
      have HY0 : Hid (0 ≤ y / 65536) := Lib.hid (by omega)
      have eW : IntKind.u16.wrap (y) = y % 65536 := by rw [IntKind.wrap_u16]; try omega
      have y1 : y ≤ 18446744073709551615 := by omega
      clear hy
      go_wp2_with (at_builtin; refine wpList_append_own _ rfl _ _ 23 rfl w.heap.size 45 i0 (.int .u16 0) 1 2 Tryd.underlying23 hi iz0 iz1 iz2 rfl (by decide) _ _ _ rfl (hown.out.alloc _) ⟨wo.heap.size, 0, none⟩ 1 1 [.int .u16 (y % 65536)] rfl rfl (cell_one_new _ _ _) one_u16 (by unfold maxLen; omega) (by omega) (by first | assumption | (simp; omega)) ?_; intro v5 w5 hown5 hgrow5 _)
      have hw5 : Below w.heap.size w w5 := Below.grown (hbw.alloc (by first | assumption | omega) _) hgrow5 (by first | assumption | (simp; omega)) (fun k hk => own_lt hown.out k hk)
      clear hgrow5
      have O5 := Lib.hid (own_app (d := (y % 65536).toNat) (by omega) hown5)
      clear hown5
      go_wp2_with fail
      go_roundw
      case rel => exact ⟨y / 65536, _, rfl, O5.out, HY0.out, HY.out, HL2, hw5⟩
      case measure => first | (simp [intOf]; done) | (simp [intOf]; omega)
    · obtain rfl : y = 0 := by omega
      have hRl : l = R := by rw [HL.out, show dg (0 : Int).toNat = [] from dg_zero, List.append_nil]
      subst hRl
      clear HL
      go_wp2_with fail
      go_ret
      exact ret_own hown.out hbw
set_option maxHeartbeats 1600000 in
set_option maxRecDepth 100000 in
theorem refOf_any (V : Nat) (x : Int) (hx : x = (V : Int)) (x1 : x ≤ 18446744073709551615) (w : World) :
    Calls Tryd.prog 18 #[.int .u64 x] w (RetU (dg V) w) := by
  obtain ⟨i0, hi, iz0, iz1, iz2⟩ := info_parts info_u16
  have hV0 : 0 ≤ x := by omega
  obtain ⟨R, hR⟩ : ∃ R, dg V = R := ⟨_, rfl⟩
  rw [hR]
  have H0 : Hid (R = [] ++ dg x.toNat) := Lib.hid (by rw [List.nil_append, hx, Int.toNat_natCast, hR])
  clear hx hR
  go_enter Tryd.func18, Tryd.ntmps18
  go_wp2_with fail
  go_loopw [0, 3] (fun s p wr => ∃ (y : Int) (l : List Nat), s = .int .u64 y ∧ OwnU wr w.heap.size p l ∧ 0 ≤ y ∧ ((y ≤ 18446744073709551615 ∧ l.length ≤ 0) ∨ (y ≤ 281474976710655 ∧ l.length ≤ 1) ∨ (y ≤ 4294967295 ∧ l.length ≤ 2) ∨ (y ≤ 65535 ∧ l.length ≤ 3) ∨ (y ≤ 0 ∧ l.length ≤ 4)) ∧ Hid (R = l ++ dg y.toNat) ∧ Below w.heap.size w wr) (fun s _ _ => (intOf s).toNat)
  case atStart => exact ⟨x, [], rfl, OwnU.nil _ _, hV0, Or.inl ⟨x1, Nat.le_refl _⟩, H0, Below.refl _ _⟩
  case round =>
    clear H0 hV0 x1
    obtain ⟨y, l, rfl, hown, y0, hy, HL, hbw⟩ := hrel
    obtain ⟨wo, rfl⟩ : ∃ wo : World, wo = wr := ⟨_, rfl⟩
    have hzo := hbw.size
    replace hown := Lib.hid hown
    have hl4 : l.length ≤ 4 := by omega
    by_cases hy0 : 0 < y
    · have HL2 : Hid (R = (l ++ [(y % 65536).toNat]) ++ dg (y / 65536).toNat) := Lib.hid (by
        rw [HL.out, dg_pos (n := y.toNat) (by omega), List.append_assoc]
        congr 2
        · omega
        · congr 1; omega)
      have HY : Hid ((y / 65536 ≤ 18446744073709551615 ∧ (l ++ [(y % 65536).toNat]).length ≤ 0) ∨ (y / 65536 ≤ 281474976710655 ∧ (l ++ [(y % 65536).toNat]).length ≤ 1) ∨ (y / 65536 ≤ 4294967295 ∧ (l ++ [(y % 65536).toNat]).length ≤ 2) ∨ (y / 65536 ≤ 65535 ∧ (l ++ [(y % 65536).toNat]).length ≤ 3) ∨ (y / 65536 ≤ 0 ∧ (l ++ [(y % 65536).toNat]).length ≤ 4)) := Lib.hid (by
        rw [List.length_append, List.length_singleton]; omega)
      have HY0 : Hid (0 ≤ y / 65536) := Lib.hid (by omega)
      have eW : IntKind.u16.wrap (y % 65536) = y % 65536 := by rw [IntKind.wrap_u16]; try omega
      have y1 : y ≤ 18446744073709551615 := by omega
      clear hy
      go_wp2_with (at_builtin; refine wpList_append_own _ rfl _ _ 22 rfl w.heap.size 45 i0 (.int .u16 0) 1 2 Tryd.underlying22 hi iz0 iz1 iz2 rfl (by decide) _ _ _ rfl (hown.out.alloc _) ⟨wo.heap.size, 0, none⟩ 1 1 [.int .u16 (y % 65536)] rfl rfl (cell_one_new _ _ _) one_u16 (by unfold maxLen; omega) (by omega) (by first | assumption | (simp; omega)) ?_; intro v5 w5 hown5 hgrow5 _)
      have hw5 : Below w.heap.size w w5 := Below.grown (hbw.alloc (by first | assumption | omega) _) hgrow5 (by first | assumption | (simp; omega)) (fun k hk => own_lt hown.out k hk)
      clear hgrow5
      have O5 := Lib.hid (own_app (d := (y % 65536).toNat) (by omega) hown5)
      clear hown5
      go_wp2_with fail
      go_roundw
      case rel => exact ⟨y / 65536, _, rfl, O5.out, HY0.out, HY.out, HL2, hw5⟩
      case measure => first | (simp [intOf]; done) | (simp [intOf]; omega)
    · obtain rfl : y = 0 := by omega
      have hRl : l = R := by rw [HL.out, show dg (0 : Int).toNat = [] from dg_zero, List.append_nil]
      subst hRl
      clear HL
      go_wp2_with fail
      go_ret
      exact ret_own hown.out hbw
def moC (a : List Nat) (b c : Nat) : Nat → Nat
  | 0 => c
  | i + 1 => (moC a b c i + a.getD i 0 * b) / 65536
def moD (a : List Nat) (b c i : Nat) : Nat := (moC a b c i + a.getD i 0 * b) % 65536
theorem moC_le {a : List Nat} {b c : Nat} (ha : DigL a) (hb : b ≤ 65535) (hc : c ≤ 65535) : ∀ i, moC a b c i ≤ 65535
  | 0 => hc
  | i + 1 => by
    have h1 := moC_le ha hb hc i
    have h2 := ha.getD i
    have h3 := Nat.mul_le_mul (show a.getD i 0 ≤ 65535 by omega) hb
    rw [moC]; omega
theorem mo_val (a : List Nat) (b c : Nat) : ∀ k, valL ((List.range k).map (moD a b c)) + 65536 ^ k * moC a b c k = valL (a.take k) * b + c
  | 0 => by simp [moC, valL]
  | k + 1 => by
    have ih := mo_val a b c k
    rw [range_succ_map, val_snoc, List.length_map, List.length_range, val_take_succ', moC, Nat.pow_succ, Nat.mul_assoc]
    have e : 65536 ^ k * (moC a b c k + a.getD k 0 * b) = 65536 ^ k * moD a b c k + 65536 ^ k * (65536 * ((moC a b c k + a.getD k 0 * b) / 65536)) := by
      rw [← Nat.mul_add]; congr 1; unfold moD; omega
    rw [Nat.mul_add] at e
    rw [Nat.add_mul, Nat.mul_assoc (65536 ^ k)]
    omega
def moL (a : List Nat) (b c : Nat) : List Nat := (List.range a.length).map (moD a b c) ++ if moC a b c a.length = 0 then [] else [moC a b c a.length]
theorem moL_dg {a : List Nat} {b c : Nat} (ha : Can a) (hb0 : 1 ≤ b) (hb : b ≤ 65535) (hc : c ≤ 65535) : moL a b c = dg (valL a * b + c) := by
  have hv := mo_val a b c a.length
  have hle := moC_le ha.1 hb hc a.length
  rw [take_all (Nat.le_refl _)] at hv
  have hval : valL (moL a b c) = valL a * b + c := by
    unfold moL
    rw [val_app, List.length_map, List.length_range]
    split
    · next h => rw [h] at hv; simp [valL] at *; omega
    · rw [val_one]; exact hv
  have hdig : DigL (moL a b c) := by
    unfold moL
    refine (DigL.map _ _ (fun i _ => by unfold moD; omega)).app ?_
    split
    · exact DigL.nil
    · exact DigL.nil.cons (by omega)
  rw [← hval]
  refine (dg_val (can_of_ge hdig ?_)).symm
  by_cases h : moC a b c a.length = 0
  · have hl : (moL a b c).length = a.length := by unfold moL; rw [if_pos h]; simp
    rw [hl]
    by_cases h0 : a.length = 0
    · exact Or.inl h0
    · right
      rw [hval]
      have h1 := ha.ge h0
      have h2 := Nat.le_mul_of_pos_right (valL a) hb0
      omega
  · right
    have hl : (moL a b c).length = a.length + 1 := by unfold moL; rw [if_neg h]; simp
    rw [hl]
    unfold moL
    rw [if_neg h, val_snoc, List.length_map, List.length_range, Nat.add_sub_cancel]
    have := Nat.mul_le_mul_left (65536 ^ a.length) (show 1 ≤ moC a b c a.length by omega)
    omega
set_option maxHeartbeats 3200000 in
set_option maxRecDepth 100000 in
theorem more_any (ad : Option Addr) (n c : Nat) (a : List Nat) (b q : Nat) (B Q : Int) (hB : B = (b : Int)) (hQ : Q = (q : Int)) (hn : a.length = n) (hz : n ≤ 2000) (ha : Can a) (b0 : 1 ≤ b) (b1 : b ≤ 65535) (q1 : q ≤ 65535) (w : World) (hS : Sl .u16 w ad n (gi a)) :
    Calls Tryd.prog 44 #[.slice ad n c, .int .i64 B, .int .i64 Q] w (RetU (dg (valL a * b + q)) w) := by
  obtain ⟨i0, hi, iz0, iz1, iz2⟩ := info_parts info_u16
  obtain ⟨R, hR⟩ : ∃ R, dg (valL a * b + q) = R := ⟨_, rfl⟩
  rw [hR]
  have HR : Hid (moL a b q = R) := Lib.hid (by rw [moL_dg ha b0 b1 q1, hR])
  have HS := Lib.hid hS
  have HN := Lib.hid hn
  have HI := Lib.hid (fun K => gi_bd ha.1 K)
  have HCL := Lib.hid (fun K => moC_le ha.1 b1 q1 K)
  have B0 : 1 ≤ B := by omega
  have B1 : B ≤ 65535 := by omega
  have Q0 : 0 ≤ Q := by omega
  have Q1 : Q ≤ 65535 := by omega
  have HB := Lib.hid hB
  have HQ := Lib.hid hQ
  clear hS hn ha hR hB hQ b0 b1 q1
  go_enter Tryd.func44, Tryd.ntmps44
  go_wp2_with (at_make; refine wpList_make_own _ rfl _ _ 23 rfl w.heap.size 45 i0 (.int .u16 0) 1 Tryd.underlying23 hi iz0 iz1 .i64 .i64 ((n : Int) + 1) (n + 1) rfl rfl (by omega) (by rw [iz2]; omega) (by unfold maxLen; omega) (Nat.le_refl _) ?_; intro w1 hown1 hgrow1)
  have o1 : OwnU w1 w.heap.size (.slice (some ⟨w.heap.size, 0, none⟩) 0 (n + 1)) [] := hown1
  have hw1 : Below w.heap.size w w1 := Below.grown (Below.refl _ _) hgrow1 (Nat.le_refl _) (fun k hk => by cases hk)
  clear hown1 hgrow1
  replace o1 := Lib.hid o1
  go_wp2_with fail
  go_loopw [7, 8, 18] (fun p r i wr => ∃ (K : Nat) (x : Int) (l : List Nat), K ≤ n ∧ i = .int .i64 K ∧ r = .int .i64 x ∧ OwnU wr w.heap.size p l ∧ l.length ≤ K ∧ Hid (l = (List.range K).map (moD a b q)) ∧ Hid (x = ((moC a b q K : Nat) : Int)) ∧ 0 ≤ x ∧ x ≤ 65535 ∧ Below w.heap.size w wr) (fun _ _ i _ => n - (intOf i).toNat)
  case atStart => exact ⟨0, Q, [], Nat.zero_le _, rfl, rfl, o1.out, Nat.le_refl _, Lib.hid rfl, HQ, Q0, Q1, hw1⟩
  case round =>
    obtain ⟨K, x, l, hK, rfl, rfl, hown, hl, HL, hx, x0, x1, hbw⟩ := hrel
    obtain ⟨wo, rfl⟩ : ∃ wo : World, wo = wr := ⟨_, rfl⟩
    have hzo := hbw.size
    replace hown := Lib.hid hown
    clear o1 hw1
    by_cases hK4 : K < n
    · obtain ⟨ax, rfl, hax, hcx⟩ := HS.out.beyond hbw K hK4
      have bx := HI.out K
      have hmax := HCL.out (K + 1)
      obtain ⟨pr, hpr⟩ : ∃ pr : Int, gi a K * B = pr := ⟨_, rfl⟩
      have hprn : pr = ((a.getD K 0 * b : Nat) : Int) := by rw [← hpr, HB.out, Int.natCast_mul]; rfl
      obtain ⟨v, hv⟩ : ∃ v : Int, v = x + pr := ⟨_, rfl⟩
      have hD : Hid (v % 65536 = ((moD a b q K : Nat) : Int)) := Lib.hid (by rw [hv, hx.out, hprn]; unfold moD; omega)
      have hC : Hid (v / 65536 = ((moC a b q (K + 1) : Nat) : Int)) := Lib.hid (by rw [hv, hx.out, hprn, moC]; omega)
      have HC2 : Hid (0 ≤ v / 65536 ∧ v / 65536 ≤ 65535) := Lib.hid (by rw [hC.out]; omega)
      have HL2 : Hid (l ++ [moD a b q K] = (List.range (K + 1)).map (moD a b q)) := Lib.hid (by rw [range_succ_map, HL.out])
      have hl2 : Hid ((l ++ [moD a b q K]).length ≤ K + 1) := Lib.hid (by rw [List.length_append, List.length_singleton]; omega)
      have p0 : 0 ≤ pr := by omega
      have p1 : pr ≤ 4294836225 := by
        rw [← hpr]
        exact Int.le_trans (Int.mul_le_mul bx.2 B1 (by omega) (by decide)) (by decide)
      generalize gi a K = u at *
      obtain ⟨u0, u1⟩ := bx
      have ew1 : wrap64 (u * B) = pr := by rw [hpr]; exact IntWalk.wrap64_in _ (by omega)
      have ew2 : IntKind.i64.wrap (u * B) = pr := by rw [hpr]; exact IntWalk.i64_in _ (by omega)
      have hv2 : x + pr = v := hv.symm
      have v0 : 0 ≤ v := by omega
      have v1 : v ≤ 4294901760 := by omega
      have eW : IntKind.u16.wrap v = v % 65536 := IntKind.wrap_u16 v
      clear hprn hv
      go_wp2_with (at_builtin; refine wpList_append_own _ rfl _ _ 23 rfl w.heap.size 45 i0 (.int .u16 0) 1 2 Tryd.underlying23 hi iz0 iz1 iz2 rfl (by decide) _ _ _ rfl (hown.out.alloc _) ⟨wo.heap.size, 0, none⟩ 1 1 [.int .u16 (v % 65536)] rfl rfl (cell_one_new _ _ _) one_u16 (by unfold maxLen; omega) (by omega) (by first | assumption | (simp; omega)) ?_; intro v5 w5 hown5 hgrow5 _)
      have hw5 : Below w.heap.size w w5 := Below.grown (hbw.alloc (by first | assumption | omega) _) hgrow5 (by first | assumption | (simp; omega)) (fun k hk => own_lt hown.out k hk)
      clear hgrow5
      have O5 := Lib.hid (own_app (d := moD a b q K) (hD.out) hown5)
      clear hown5
      go_wp2_with fail
      go_roundw
      case rel => exact ⟨K + 1, v / 65536, l ++ [moD a b q K], by omega, by go_num, by first | rfl | (simp; done), O5.out, hl2.out, HL2, hC, HC2.out.1, HC2.out.2, hw5⟩
      case measure => first | (simp [intOf]; done) | (simp [intOf]; omega)
    · obtain rfl : K = n := by omega
      have hRR := HR.out
      unfold moL at hRR
      rw [HN.out] at hRR
      by_cases hx0 : x = 0
      · subst hx0
        rw [if_pos (by have := hx.out; omega), List.append_nil, ← HL.out] at hRR
        subst hRR
        clear HL HR hx
        go_wp2_with fail
        go_ret
        exact ret_own hown.out hbw
      · rw [if_neg (by have := hx.out; omega), ← HL.out] at hRR
        have xp : 0 < x := by omega
        have HRR := Lib.hid hRR
        have eW : IntKind.u16.wrap x = x := by rw [IntKind.wrap_u16]; omega
        clear hRR HR
        go_wp2_with (at_builtin; refine wpList_append_own _ rfl _ _ 23 rfl w.heap.size 45 i0 (.int .u16 0) 1 2 Tryd.underlying23 hi iz0 iz1 iz2 rfl (by decide) _ _ _ rfl (hown.out.alloc _) ⟨wo.heap.size, 0, none⟩ 1 1 [.int .u16 (x)] rfl rfl (cell_one_new _ _ _) one_u16 (by unfold maxLen; omega) (by omega) (by first | assumption | (simp; omega)) ?_; intro v5 w5 hown5 hgrow5 _)
        have hw5 : Below w.heap.size w w5 := Below.grown (hbw.alloc (by first | assumption | omega) _) hgrow5 (by first | assumption | (simp; omega)) (fun k hk => own_lt hown.out k hk)
        clear hgrow5
        have O5 := Lib.hid (own_app (d := moC a b q K) (hx.out) hown5)
        clear hown5
        go_wp2_with fail
        go_ret
        have h9 := O5.out
        rw [HRR.out] at h9
        exact ret_own h9 hw5
end
section
open Go.RowKit
set_option linter.unusedSimpArgs false
set_option linter.unusedVariables false
attribute [local irreducible] Fl.K
theorem bits_half {x : Nat} (h : 0 < x) (h2 : x ≤ 65535) : Lib.bitLen x = 1 + Lib.bitLen (x / 2) := Lib.bitLen_half x (by omega) (by omega)
theorem bits_le {x : Nat} (h2 : x ≤ 65535) : Lib.bitLen x ≤ 16 := by
  rcases Nat.lt_or_ge (Lib.bitLen x) 17 with h | h
  · omega
  · exfalso
    have e : ∀ (k y : Nat), y < 2 ^ k → y ≤ 65535 → Lib.bitLen y ≤ k := by
      intro k
      induction k with
      | zero => intro y h1 _; obtain rfl : y = 0 := by simpa using h1
                decide
      | succ k ih =>
        intro y h1 h3
        rcases Nat.eq_zero_or_pos y with h4 | h4
        · subst h4; exact Nat.le_trans (show Lib.bitLen 0 ≤ 0 by decide) (Nat.zero_le _)
        · rw [bits_half h4 h3]
          have := ih (y / 2) (by rw [Nat.pow_succ] at h1; omega) (by omega)
          omega
    have := e 16 x (by show x < 65536; omega) h2
    omega
def bitsL (a : List Nat) : Int := if a.length = 0 then 0 else 16 * ((a.length : Int) - 1) + (Lib.bitLen (a.getD (a.length - 1) 0) : Nat)
set_option maxHeartbeats 1600000 in
set_option maxRecDepth 100000 in
theorem bigBits_bad (ad : Option Addr) (n c : Nat) (a : List Nat) (hn : a.length = n) (hz : n ≤ 1000) (ha : isB a = false) (w : World) (hS : Sl .u16 w ad n (gi a)) :
    Calls Tryd.prog 31 #[.slice ad n c] w fun e w' => e = .returned (.int .i64 0) ∧ w = w' := by
  have I1 := Lib.hid (ha ▸ bigIs_any ad n c a hn (by omega) w hS)
  clear hS hn ha
  go_enter Tryd.func31, Tryd.ntmps31
  go_wp2_with fail
  with_reducible refine (I1.out).mono ?_
  rintro e w' ⟨rfl, rfl⟩
  go_wp2_with fail
  go_ret
  exact ⟨rfl, rfl⟩
set_option maxHeartbeats 1600000 in
set_option maxRecDepth 100000 in
theorem bigBits_yes (ad : Option Addr) (n c : Nat) (a : List Nat) (hn : a.length = n) (hz : n ≤ 1000) (ha : isB a = true) (da : DigL a) (w : World) (hS : Sl .u16 w ad n (gi a)) :
    Calls Tryd.prog 31 #[.slice ad n c] w fun e w' => e = .returned (.int .i64 (bitsL a)) ∧ w = w' := by
  have I1 := Lib.hid (ha ▸ bigIs_any ad n c a hn (by omega) w hS)
  by_cases h0 : n = 0
  · subst h0
    have hb : bitsL a = 0 := by unfold bitsL; rw [if_pos hn]
    rw [hb]
    clear hS hn ha hb
    go_enter Tryd.func31, Tryd.ntmps31
    go_wp2_with fail
    with_reducible refine (I1.out).mono ?_
    rintro e w' ⟨rfl, rfl⟩
    go_wp2_with fail
    go_ret
    exact ⟨rfl, rfl⟩
  · obtain ⟨ax, rfl, hax, hcx⟩ := hS (n - 1) (by omega)
    have bx := gi_bd da (n - 1)
    have L16 := Tryd.bits_Len16 (gi a (n - 1)) w bx.1 bx.2
    have hb : bitsL a = 16 * ((n : Int) - 1) + (Lib.bitLen (gi a (n - 1)).toNat : Nat) := by
      unfold bitsL
      rw [if_neg (by omega), hn]
      congr 2
    rw [hb]
    have hle := bits_le (x := (gi a (n - 1)).toNat) (by omega)
    obtain ⟨y, hy⟩ : ∃ y : Int, ((Lib.bitLen (gi a (n - 1)).toNat : Nat) : Int) = y := ⟨_, rfl⟩
    rw [hy] at L16 ⊢
    have y0 : 0 ≤ y := by omega
    have y1 : y ≤ 16 := by omega
    generalize gi a (n - 1) = x at *
    have k0 : (1 : Int) ≤ (n : Int) := by omega
    have e0 : ((n : Int) == 0) = false := beq_f (by omega)
    have L16 := Lib.hid L16
    clear hS hn ha hb hy hle
    go_enter Tryd.func31, Tryd.ntmps31
    go_wp2_with fail
    with_reducible refine (I1.out).mono ?_
    rintro e w' ⟨rfl, rfl⟩
    go_wp2_with fail
    with_reducible refine (L16.out).mono ?_
    rintro e w' ⟨rfl, rfl⟩
    go_wp2_with fail
    go_ret
    exact ⟨rfl, rfl⟩
set_option maxHeartbeats 1600000 in
set_option maxRecDepth 100000 in
theorem refBits_any (ad : Option Addr) (n c : Nat) (a : List Nat) (hn : a.length = n) (hz : n ≤ 1000) (da : DigL a) (w : World) (hS : Sl .u16 w ad n (gi a)) :
    Calls Tryd.prog 33 #[.slice ad n c] w fun e w' => e = .returned (.int .i64 (bitsL a)) ∧ w = w' := by
  by_cases h0 : n = 0
  · subst h0
    have hb : bitsL a = 0 := by unfold bitsL; rw [if_pos hn]
    rw [hb]
    clear hS hn hb
    go_enter Tryd.func33, Tryd.ntmps33
    go_wp2_with fail
    go_ret
    exact ⟨rfl, rfl⟩
  · obtain ⟨ax, rfl, hax, hcx⟩ := hS (n - 1) (by omega)
    have bx := gi_bd da (n - 1)
    have hb : bitsL a = 16 * ((n : Int) - 1) + (Lib.bitLen (gi a (n - 1)).toNat : Nat) := by
      unfold bitsL
      rw [if_neg (by omega), hn]
      congr 2
    obtain ⟨R, hR⟩ : ∃ R, bitsL a = R := ⟨_, rfl⟩
    rw [hR]
    have hle := bits_le (x := (gi a (n - 1)).toNat) (by omega)
    generalize gi a (n - 1) = x at *
    have HRL : Hid (R ≤ 16 * (n : Int)) := Lib.hid (by rw [← hR, hb]; omega)
    have HR : Hid (R = 16 * ((n : Int) - 1) + (Lib.bitLen x.toNat : Nat)) := Lib.hid (by rw [← hR, hb])
    obtain ⟨x0, x1⟩ := bx
    have k0 : (1 : Int) ≤ (n : Int) := by omega
    have e0 : ((n : Int) == 0) = false := beq_f (by omega)
    clear hS hn hb hR hle
    go_enter Tryd.func33, Tryd.ntmps33
    go_wp2_with fail
    go_loop [3, 4] (fun q v => ∃ r y : Int, q = .int .i64 r ∧ v = .int .u16 y ∧ 0 ≤ y ∧ y ≤ 65535 ∧ 0 ≤ r ∧ r ≤ 16 * (n : Int) ∧ Hid (R = r + (Lib.bitLen y.toNat : Nat))) (fun _ v => (intOf v).toNat)
    case atStart => exact ⟨_, x, rfl, rfl, x0, x1, by omega, by omega, HR⟩
    case round =>
      obtain ⟨r, y, rfl, rfl, y0, y1, r0, r1, hr⟩ := hrel
      by_cases hy : 0 < y
      · have h2 := bits_half (x := y.toNat) (by omega) (by omega)
        have hle := bits_le (x := y.toNat) (by omega)
        have HR2 : Hid (R = r + 1 + (Lib.bitLen (y / 2).toNat : Nat)) := Lib.hid (by
          rw [hr.out, h2, show y.toNat / 2 = (y / 2).toNat by omega]; omega)
        have HRB : Hid (r + 1 ≤ 16 * (n : Int)) := Lib.hid (by have h3 := hr.out; have h4 := HRL.out; rw [h2] at h3; omega)
        have eT : IntKind.u16.wrap (y.tdiv 2) = y / 2 := by rw [Int.tdiv_eq_ediv_of_nonneg y0, IntKind.wrap_u16]; omega
        clear h2 hle
        go_wp2_with fail
        go_round
        case rel => exact ⟨r + 1, y / 2, rfl, rfl, by omega, by omega, by omega, HRB.out, HR2⟩
        case measure => first | (simp [intOf]; done) | (simp [intOf]; omega)
      · obtain rfl : y = 0 := by omega
        have hr2 : R = r := by have := hr.out; rw [this]; show r + ((0 : Nat) : Int) = r; omega
        subst hr2
        clear hr HR HRL
        go_wp2_with fail
        go_ret
        exact ⟨rfl, rfl⟩
theorem or64_pow (k : Nat) (v u P : Int) (hk : k ≤ 3) (hP : P = 65536 ^ k) (v0 : 0 ≤ v) (v1 : v < P) (u0 : 0 ≤ u) (u1 : u ≤ 65535) : bits .or .u64 v (u * P) = v + u * P ∧ 0 ≤ u * P ∧ u * P ≤ 18446744073709551615 - v := by
  subst hP
  rcases (show k = 0 ∨ k = 1 ∨ k = 2 ∨ k = 3 by omega) with rfl | rfl | rfl | rfl
  · refine ⟨or_join' 0 (u * 65536 ^ 0) v (by simpa using u0) (by omega) v0 (by simpa using v1) (by omega) (by omega), by omega, by omega⟩
  · refine ⟨or_join' 16 (u * 65536 ^ 1) v (by omega) (by omega) v0 (by simpa using v1) (by omega) (by omega), by omega, by omega⟩
  · refine ⟨or_join' 32 (u * 65536 ^ 2) v (by omega) (by omega) v0 (by simpa using v1) (by omega) (by omega), by omega, by omega⟩
  · refine ⟨or_join' 48 (u * 65536 ^ 3) v (by omega) (by omega) v0 (by simpa using v1) (by omega) (by omega), by omega, by omega⟩
set_option maxHeartbeats 1600000 in
set_option maxRecDepth 100000 in
theorem bigSmall_bad (ad : Option Addr) (n c : Nat) (a : List Nat) (hn : a.length = n) (hz : n ≤ 1000) (hno : isB a = false ∨ 4 < n) (w : World) (hS : Sl .u16 w ad n (gi a)) :
    Calls Tryd.prog 30 #[.slice ad n c] w fun e w' => e = .returned (.tuple #[.int .u64 0, .bool false]) ∧ w = w' := by
  have I1 := bigIs_any ad n c a hn (by omega) w hS
  cases ha : isB a with
  | false =>
    rw [ha] at I1
    have I1 := Lib.hid I1
    clear hS hn ha hno
    go_enter Tryd.func30, Tryd.ntmps30
    go_wp2_with fail
    with_reducible refine (I1.out).mono ?_
    rintro e w' ⟨rfl, rfl⟩
    go_wp2_with fail
    go_ret2
    exact ⟨rfl, rfl⟩
  | true =>
    have h4 : 4 < n := by rcases hno with h | h; · rw [ha] at h; cases h
                          exact h
    rw [ha] at I1
    have I1 := Lib.hid I1
    clear hS hn ha hno
    go_enter Tryd.func30, Tryd.ntmps30
    go_wp2_with fail
    with_reducible refine (I1.out).mono ?_
    rintro e w' ⟨rfl, rfl⟩
    go_wp2_with fail
    go_ret2
    exact ⟨rfl, rfl⟩
set_option maxHeartbeats 1600000 in
set_option maxRecDepth 100000 in
theorem bigSmall_yes (ad : Option Addr) (n c : Nat) (a : List Nat) (hn : a.length = n) (ha : isB a = true) (h4 : n ≤ 4) (da : DigL a) (w : World) (hS : Sl .u16 w ad n (gi a)) :
    Calls Tryd.prog 30 #[.slice ad n c] w fun e w' => e = .returned (.tuple #[.int .u64 (valL a : Nat), .bool true]) ∧ w = w' := by
  have I1 := Lib.hid (ha ▸ bigIs_any ad n c a hn (by omega) w hS)
  have HS := Lib.hid hS
  have HN := Lib.hid hn
  have HD := Lib.hid da
  obtain ⟨V, hV⟩ : ∃ V : Int, ((valL a : Nat) : Int) = V := ⟨_, rfl⟩
  rw [hV]
  have HV := Lib.hid hV
  clear hS hn ha da hV
  go_enter Tryd.func30, Tryd.ntmps30
  go_wp2_with fail
  with_reducible refine (I1.out).mono ?_
  rintro e w' ⟨rfl, rfl⟩
  go_wp2_with fail
  go_loop [4, 17] (fun q i => ∃ (K : Nat) (v : Int), K ≤ n ∧ i = .int .i64 K ∧ q = .int .u64 v ∧ Hid (v = ((valL (a.take K) : Nat) : Int))) (fun _ i => n - (intOf i).toNat)
  case atStart => exact ⟨0, 0, Nat.zero_le _, rfl, rfl, Lib.hid rfl⟩
  case round =>
    obtain ⟨K, v, hK, rfl, rfl, hv⟩ := hrel
    by_cases hK4 : K < n
    · obtain ⟨ax, rfl, hax, hcx⟩ := HS.out K hK4
      have bx := gi_bd HD.out K
      have hvl := val_lt (HD.out.take K)
      rw [List.length_take, Nat.min_eq_left (by have := HN.out; omega)] at hvl
      have hs := val_take_succ' a K
      obtain ⟨P, hP⟩ : ∃ P : Int, (65536 : Int) ^ K = P := ⟨_, rfl⟩
      have hPn : P = ((65536 ^ K : Nat) : Int) := by rw [← hP, Int.natCast_pow]; rfl
      have v0 : 0 ≤ v := by rw [hv.out]; omega
      have v1 : v < P := by rw [hv.out, hPn]; omega
      have hx : gi a K = ((a.getD K 0 : Nat) : Int) := rfl
      obtain ⟨o1, o2, o3⟩ := or64_pow K v (gi a K) P (by omega) hP.symm v0 v1 bx.1 bx.2
      have HV2 : Hid (v + gi a K * P = ((valL (a.take (K + 1)) : Nat) : Int)) := Lib.hid (by
        rw [hs, hv.out, hPn, hx, Int.natCast_add, Int.natCast_mul, Int.mul_comm])
      have hp1 : (2 : Int) ^ ((16 * (K : Int)).toNat) = P := by
        rw [← hP, show (16 * (K : Int)).toNat = 16 * K by omega, Int.pow_mul]; rfl
      have hp2 : (2 : Int) ^ (16 * K) = P := by rw [← hP, Int.pow_mul]; rfl
      generalize gi a K = u at *
      obtain ⟨u0, u1⟩ := bx
      obtain ⟨pr, hpr⟩ : ∃ pr, u * P = pr := ⟨_, rfl⟩
      rw [hpr] at o1 o2 o3 HV2
      have ew : IntKind.u64.wrap (u * P) = pr := by rw [hpr]; exact IntWalk.u64_in _ (by omega)
      have ew2 : IntKind.u64.wrap u = u := IntWalk.u64_in _ (by omega)
      have k64 : 16 * (K : Int) ≤ 64 := by omega
      have k0 : 0 ≤ 16 * (K : Int) := by omega
      have k64n : 16 * K ≤ 64 := by omega
      clear hx hs hvl hPn hP v1
      go_wp2_with fail
      go_round
      case rel => exact ⟨K + 1, v + pr, by omega, by go_num, by first | rfl | (simp; done), HV2⟩
      case measure => first | (simp [intOf]; done) | (simp [intOf]; omega)
    · obtain rfl : K = n := by omega
      have hvV : v = V := by rw [hv.out, ← HV.out, take_all (by have := HN.out; omega)]
      subst hvV
      clear hv HV
      go_wp2_with fail
      go_ret2
      exact ⟨rfl, rfl⟩
end
section
open Go.RowKit
set_option linter.unusedSimpArgs false
set_option linter.unusedVariables false
attribute [local irreducible] Fl.K
theorem or32b (s : Nat) (x u P : Int) (hs : s ≤ 15) (hP : P = 2 ^ s) (x0 : 0 ≤ x) (x1 : x < P) (u0 : 0 ≤ u) (u1 : u ≤ 65535) : bits .or .u32 x (u * P) = x + u * P ∧ 0 ≤ u * P ∧ u * P ≤ 2147450880 := by
  subst hP
  have hp : (1 : Int) ≤ 2 ^ s := by
    have := Nat.one_le_two_pow (n := s)
    have e : ((2 : Int) ^ s) = ((2 ^ s : Nat) : Int) := by rw [Int.natCast_pow]; rfl
    rw [e]; omega
  have hp2 : (2 : Int) ^ s ≤ 32768 := by
    have h := Nat.pow_le_pow_right (n := 2) (by decide) hs
    have e : ((2 : Int) ^ s) = ((2 ^ s : Nat) : Int) := by rw [Int.natCast_pow]; rfl
    rw [e]
    have h2 : 2 ^ 15 = 32768 := rfl
    omega
  have h1 : 0 ≤ u * 2 ^ s := Int.mul_nonneg u0 (by omega)
  have h2 : u * 2 ^ s ≤ 65535 * 32768 := Int.mul_le_mul u1 hp2 (by omega) (by decide)
  refine ⟨?_, h1, by omega⟩
  obtain ⟨m, hm⟩ := Int.eq_ofNat_of_zero_le h1
  obtain ⟨n, rfl⟩ := Int.eq_ofNat_of_zero_le x0
  have e : ((2 : Int) ^ s) = ((2 ^ s : Nat) : Int) := by rw [Int.natCast_pow]; rfl
  have hmod : m % 2 ^ s = 0 := by
    have h3 : (u * 2 ^ s) % 2 ^ s = 0 := Int.mul_emod_left _ _
    rw [hm, e] at h3
    omega
  rw [hm, u32_or_nat n m (by omega) (by omega), Nat.or_comm, nat_join s m n hmod (by rw [e] at x1; omega), Int.natCast_add, Int.add_comm]
theorem moC_lt {a : List Nat} {b c : Nat} (ha : DigL a) (hb : 0 < b) (hc : c < b) : ∀ i, moC a b c i < b
  | 0 => hc
  | i + 1 => by
    have h1 := moC_lt ha hb hc i
    have h2 := ha.getD i
    rw [moC, Nat.div_lt_iff_lt_mul (by decide)]
    have h3 := Nat.mul_le_mul_right b (show a.getD i 0 ≤ 65535 by omega)
    have h4 : b * 65536 = 65535 * b + b := by omega
    omega
set_option maxHeartbeats 3200000 in
set_option maxRecDepth 100000 in
theorem up_any (ad : Option Addr) (n c : Nat) (a : List Nat) (s : Nat) (S : Int) (hS' : S = (s : Int)) (hs : s ≤ 15) (hn : a.length = n) (hz : n ≤ 2000) (ha : Can a) (w : World) (hS : Sl .u16 w ad n (gi a)) :
    Calls Tryd.prog 47 #[.slice ad n c, .int .i64 S] w (RetO (dg (valL a * 2 ^ s)) w) := by
  obtain ⟨i0, hi, iz0, iz1, iz2⟩ := info_parts info_u16
  have hp1 : 1 ≤ 2 ^ s := Nat.one_le_two_pow
  have hp2 : 2 ^ s ≤ 32768 := Nat.pow_le_pow_right (n := 2) (by decide) hs
  obtain ⟨q, hq⟩ : ∃ q, 2 ^ s = q := ⟨_, rfl⟩
  obtain ⟨P, hP⟩ : ∃ P : Int, (2 : Int) ^ s = P := ⟨_, rfl⟩
  have hPq : P = (q : Int) := by rw [← hP, ← hq, Int.natCast_pow]; rfl
  have OR := Lib.hid (fun x u => or32b s x u P hs hP.symm)
  have hps : (2 : Int) ^ S.toNat = P := by rw [hS', Int.toNat_natCast, hP]
  have S0 : 0 ≤ S := by omega
  have S1 : S ≤ 15 := by omega
  have S2 : S ≤ 32 := by omega
  rw [hq] at hp1 hp2 ⊢
  obtain ⟨R, hR⟩ : ∃ R, dg (valL a * q) = R := ⟨_, rfl⟩
  rw [hR]
  have HR : Hid (moL a q 0 = R) := Lib.hid (by rw [moL_dg ha hp1 (by omega) (by decide), Nat.add_zero, hR])
  have HS := Lib.hid hS
  have HN := Lib.hid hn
  have HI := Lib.hid (fun K => gi_bd ha.1 K)
  have HCL := Lib.hid (fun K => moC_lt ha.1 (b := q) (c := 0) (by omega) (by omega) K)
  have HPq := Lib.hid hPq
  have hPs := Lib.hid hP
  clear hS hn ha hR hS' hq hP hPq hs
  go_enter Tryd.func47, Tryd.ntmps47
  go_wp2_with fail
  go_loopw [5, 6, 11] (fun p r i wr => ∃ (K : Nat) (x : Int) (l : List Nat), K ≤ n ∧ i = .int .i64 K ∧ r = .int .u32 x ∧ OwnU wr w.heap.size p l ∧ l.length ≤ K ∧ Hid (l = (List.range K).map (moD a q 0)) ∧ Hid (x = ((moC a q 0 K : Nat) : Int)) ∧ 0 ≤ x ∧ x ≤ 32767 ∧ Below w.heap.size w wr) (fun _ _ i _ => n - (intOf i).toNat)
  case atStart => exact ⟨0, 0, [], Nat.zero_le _, rfl, rfl, OwnU.nil _ _, Nat.le_refl _, Lib.hid rfl, Lib.hid rfl, by decide, by decide, Below.refl _ _⟩
  case round =>
    obtain ⟨K, x, l, hK, rfl, rfl, hown, hl, HL, hx, x0, x1, hbw⟩ := hrel
    obtain ⟨wo, rfl⟩ : ∃ wo : World, wo = wr := ⟨_, rfl⟩
    have hzo := hbw.size
    replace hown := Lib.hid hown
    by_cases hK4 : K < n
    · obtain ⟨ax, rfl, hax, hcx⟩ := HS.out.beyond hbw K hK4
      have bx := HI.out K
      have hmax := HCL.out (K + 1)
      have hmax0 := HCL.out K
      obtain ⟨o1, o2, o3⟩ := OR.out x (gi a K) x0 (by rw [hx.out, HPq.out]; omega) bx.1 bx.2
      obtain ⟨pr, hpr⟩ : ∃ pr : Int, gi a K * P = pr := ⟨_, rfl⟩
      have hprn : pr = ((a.getD K 0 * q : Nat) : Int) := by rw [← hpr, HPq.out, Int.natCast_mul]; rfl
      rw [hpr] at o1 o2 o3
      obtain ⟨v, hv⟩ : ∃ v : Int, v = x + pr := ⟨_, rfl⟩
      have hD : Hid (v % 65536 = ((moD a q 0 K : Nat) : Int)) := Lib.hid (by rw [hv, hx.out, hprn]; unfold moD; omega)
      have hC : Hid (v / 65536 = ((moC a q 0 (K + 1) : Nat) : Int)) := Lib.hid (by rw [hv, hx.out, hprn, moC]; omega)
      have HC2 : Hid (0 ≤ v / 65536 ∧ v / 65536 ≤ 32767) := Lib.hid (by rw [hC.out]; omega)
      have HL2 : Hid (l ++ [moD a q 0 K] = (List.range (K + 1)).map (moD a q 0)) := Lib.hid (by rw [range_succ_map, HL.out])
      have hl2 : Hid ((l ++ [moD a q 0 K]).length ≤ K + 1) := Lib.hid (by rw [List.length_append, List.length_singleton]; omega)
      generalize gi a K = u at *
      obtain ⟨u0, u1⟩ := bx
      have ew1 : IntKind.u32.wrap (u * P) = pr := by rw [hpr]; exact IntWalk.u32_in _ (by omega)
      have ew2 : IntKind.u32.wrap u = u := IntWalk.u32_in _ (by omega)
      rw [← hv] at o1
      have v0 : 0 ≤ v := by omega
      have v1 : v ≤ 2147483647 := by omega
      have eW : IntKind.u16.wrap v = v % 65536 := IntKind.wrap_u16 v
      clear hprn hv hmax hmax0
      go_wp2_with (at_builtin; refine wpList_append_own _ rfl _ _ 23 rfl w.heap.size 45 i0 (.int .u16 0) 1 2 Tryd.underlying23 hi iz0 iz1 iz2 rfl (by decide) _ _ _ rfl (hown.out.alloc _) ⟨wo.heap.size, 0, none⟩ 1 1 [.int .u16 (v % 65536)] rfl rfl (cell_one_new _ _ _) one_u16 (by unfold maxLen; omega) (by omega) (by first | assumption | (simp; omega)) ?_; intro v5 w5 hown5 hgrow5 _)
      have hw5 : Below w.heap.size w w5 := Below.grown (hbw.alloc (by first | assumption | omega) _) hgrow5 (by first | assumption | (simp; omega)) (fun k hk => own_lt hown.out k hk)
      clear hgrow5
      have O5 := Lib.hid (own_app (d := moD a q 0 K) (hD.out) hown5)
      clear hown5
      go_wp2_with fail
      go_roundw
      case rel => exact ⟨K + 1, v / 65536, l ++ [moD a q 0 K], by omega, by go_num, by first | rfl | (simp; done), O5.out, hl2.out, HL2, hC, HC2.out.1, HC2.out.2, hw5⟩
      case measure => first | (simp [intOf]; done) | (simp [intOf]; omega)
    · obtain rfl : K = n := by omega
      have hRR := HR.out
      unfold moL at hRR
      rw [HN.out] at hRR
      by_cases hx0 : x = 0
      · subst hx0
        rw [if_pos (by have := hx.out; omega), List.append_nil, ← HL.out] at hRR
        subst hRR
        clear HL HR hx
        go_wp2_with fail
        go_ret
        exact ⟨_, rfl, hown.out, hbw⟩
      · rw [if_neg (by have := hx.out; omega), ← HL.out] at hRR
        have xp : 0 < x := by omega
        have HRR := Lib.hid hRR
        have eW : IntKind.u16.wrap x = x := by rw [IntKind.wrap_u16]; omega
        clear hRR HR
        go_wp2_with (at_builtin; refine wpList_append_own _ rfl _ _ 23 rfl w.heap.size 45 i0 (.int .u16 0) 1 2 Tryd.underlying23 hi iz0 iz1 iz2 rfl (by decide) _ _ _ rfl (hown.out.alloc _) ⟨wo.heap.size, 0, none⟩ 1 1 [.int .u16 (x)] rfl rfl (cell_one_new _ _ _) one_u16 (by unfold maxLen; omega) (by omega) (by first | assumption | (simp; omega)) ?_; intro v5 w5 hown5 hgrow5 _)
        have hw5 : Below w.heap.size w w5 := Below.grown (hbw.alloc (by first | assumption | omega) _) hgrow5 (by first | assumption | (simp; omega)) (fun k hk => own_lt hown.out k hk)
        clear hgrow5
        have O5 := Lib.hid (own_app (d := moC a q 0 K) (hx.out) hown5)
        clear hown5
        go_wp2_with fail
        go_ret
        have h9 := O5.out
        rw [HRR.out] at h9
        exact ⟨_, rfl, h9, hw5⟩
theorem dg_shift {N q : Nat} (h : N ≠ 0) : List.replicate q 0 ++ dg N = dg (65536 ^ q * N) := by
  have hv : valL (List.replicate q 0 ++ dg N) = 65536 ^ q * N := by
    rw [val_app, val_rep, List.length_replicate, val_dg]; omega
  rw [← hv]
  refine (dg_val (can_of_ge ((DigL.rep q).app (dig_dg N)) (Or.inr ?_))).symm
  rw [hv, List.length_append, List.length_replicate]
  have hl := dg_len0 h
  have hg := (can_dg N).ge (by omega)
  rw [val_dg] at hg
  have := Nat.mul_le_mul_left (65536 ^ q) hg
  rw [← Nat.pow_add, show q + ((dg N).length - 1) = q + (dg N).length - 1 by omega] at this
  exact this
theorem made_rowu {w1 : World} {base g c n : Nat} (h : w1.ownsRow base 45 1 (.slice (some ⟨g, 0, none⟩) n c) n (madeCells (Value.int .u16 0).cells (n * 1)).toList) : Row w1 g n (ou (gi (List.replicate n 0))) := by
  have ro := owns_at0 h (ou (gi (List.replicate n 0))) (fun t ht => by
    simp only [Nat.mul_one] at ht ⊢
    rw [madeu_get rfl ht])
  rw [Nat.mul_one] at ro
  exact ro
theorem two_val (q s : Nat) : valL (List.replicate q 0 ++ [2 ^ s]) = 65536 ^ q * 2 ^ s := by
  rw [val_snoc, val_rep, List.length_replicate]; omega
set_option maxHeartbeats 1600000 in
set_option maxRecDepth 100000 in
theorem refUp_any (ad : Option Addr) (n c : Nat) (a : List Nat) (N : Int) (q s : Nat) (hq : N / 16 = (q : Int)) (hs : N % 16 = (s : Int)) (N0 : 0 ≤ N) (N1 : N ≤ 4096) (hn : a.length = n) (hz : n ≤ 1000) (da : DigL a) (w : World) (hS : Sl .u16 w ad n (gi a)) :
    Calls Tryd.prog 32 #[.slice ad n c, .int .i64 N] w (RetU (dg (valL a * (65536 ^ q * 2 ^ s))) w) := by
  obtain ⟨i0, hi, iz0, iz1, iz2⟩ := info_parts info_u16
  have hs15 : s ≤ 15 := by omega
  have hq256 : q ≤ 256 := by omega
  have hp2 : 2 ^ s ≤ 32768 := Nat.pow_le_pow_right (n := 2) (by decide) hs15
  have dT : DigL (List.replicate q 0 ++ [2 ^ s]) := (DigL.rep q).app (DigL.nil.cons (by omega))
  have lT : (List.replicate q 0 ++ [2 ^ s]).length = q + 1 := by simp
  have RM := fun w y cy h g => refMul_any ad y n c (q + 1) cy a (List.replicate q 0 ++ [2 ^ s]) hn lT (by omega) (by omega) da dT w h g
  rw [two_val] at RM
  replace RM := Lib.hid RM
  have HS := Lib.hid hS
  have hset : (List.replicate (q + 1) 0).set q (2 ^ s) = List.replicate q 0 ++ [2 ^ s] := by
    rw [List.replicate_succ']
    rw [List.set_append_right _ _ (by simp)]
    simp
  have HSET := Lib.hid hset
  obtain ⟨P, hP⟩ : ∃ P : Int, (2 : Int) ^ s = P := ⟨_, rfl⟩
  have hPn : P = ((2 ^ s : Nat) : Int) := by rw [← hP, Int.natCast_pow]; rfl
  have P0 : 0 ≤ P := by rw [hPn]; exact Int.natCast_nonneg _
  have P1 : P ≤ 32768 := by rw [hPn]; exact Int.ofNat_le.2 hp2
  have HPn := Lib.hid hPn
  obtain ⟨S, hSS⟩ : ∃ S : Int, N % 16 = S := ⟨_, rfl⟩
  have S0 : 0 ≤ S := by omega
  have S1 : S ≤ 15 := by omega
  have hp1 : (2 : Int) ^ S.toNat = P := by rw [← hSS, hs, Int.toNat_natCast, hP]
  obtain ⟨T, hT⟩ : ∃ T : Int, N / 16 = T := ⟨_, rfl⟩
  have T0 : 0 ≤ T := by omega
  have hTq : T = (q : Int) := by omega
  have HTq := Lib.hid hTq
  have ew : IntKind.u16.wrap P = P := by rw [IntKind.wrap_u16]; omega
  have ewS : IntKind.u64.wrap S = S := IntWalk.u64_in _ (by omega)
  have S16 : S ≤ 16 := by omega
  have qn : Hid (q < q + 1) := Lib.hid (by omega)
  clear hS hn da hset hPn hP hq hs dT lT
  subst hTq
  go_enter Tryd.func32, Tryd.ntmps32
  go_upto_region 2 with (at_make; refine wpList_make_full _ rfl _ _ 22 rfl w.heap.size 45 i0 (.int .u16 0) 1 Tryd.underlying22 hi iz0 iz1 .i64 .i64 ((q : Int) + 1) ((q : Int) + 1) (q + 1) rfl rfl (by omega) (by omega) (by rw [iz2]; omega) (by unfold maxLen; omega) (Nat.le_refl _) ?_; intro w1 hown1 hgrow1)
  have ro := made_rowu hown1
  have hw1 : Below w.heap.size w w1 := Below.grown (Below.refl _ _) hgrow1 (Nat.le_refl _) (fun k hk => by cases hk)
  have ck := ro.at q (by omega)
  unfold ou at ck
  have fr := ro.free q (by omega)
  have rl := ro.lt
  have ST := Lib.hid (row_setl ro (by simp) q (2 ^ s) (by omega) P HPn.out)
  have k1 : (q : Int) < (q : Int) + 1 := by omega
  clear hown1 hgrow1 ro
  go_wp2_with fail
  have st := row_slu ST.out
  rw [HSET.out] at st
  have hw2 : Below w.heap.size w (w1.setCell ⟨w.heap.size, q, none⟩ (.int .u16 P)) := hw1.setCell (Nat.le_refl _) _
  with_reducible refine (RM.out _ _ _ (HS.out.beyond hw2) st).mono ?_
  rintro e w3 ⟨x, cx, rfl, hcx, s3, hb3⟩
  have hw3 : Below w.heap.size w w3 := hw2.trans (hb3.mono hw2.size)
  have HS3 := Lib.hid s3
  clear s3 hb3 st
  go_wp2_with fail
  go_ret
  exact ⟨_, _, rfl, hcx, HS3.out, hw3⟩
end
section
open Go.RowKit
set_option linter.unusedSimpArgs false
set_option linter.unusedVariables false
attribute [local irreducible] Fl.K
/-- A power that has at most 256 digits, if the numbers are such. -/
def powO (b e : Int) : Option Nat := if b < 0 ∨ 65535 < b ∨ e < 0 then none else if (dg (b.toNat ^ e.toNat)).length ≤ 256 then some (b.toNat ^ e.toNat) else none
/-- A row of digits, and whether there is one. -/
def RetPw (o : Option Nat) (w : World) (e : Ending) (w' : World) : Prop := ∃ x cx, e = .returned (.tuple #[.slice x (dg (o.getD 0)).length cx, .bool o.isSome]) ∧ Sl .u16 w' x (dg (o.getD 0)).length (gi (dg (o.getD 0))) ∧ Below w.heap.size w w'
theorem retPw_none {w w' : World} (h : Below w.heap.size w w') : RetPw none w (.returned (.tuple #[.slice none 0 0, .bool false])) w' := by
  refine ⟨none, 0, ?_, ?_, h⟩
  · rw [show (dg ((none : Option Nat).getD 0)).length = 0 by rw [show (none : Option Nat).getD 0 = 0 from rfl, dg_zero]; rfl]; rfl
  · rw [show (dg ((none : Option Nat).getD 0)).length = 0 by rw [show (none : Option Nat).getD 0 = 0 from rfl, dg_zero]; rfl]; exact Sl.none _ _ _ _
theorem retPw_zero {w w' : World} (h : Below w.heap.size w w') : RetPw (some 0) w (.returned (.tuple #[.slice none 0 0, .bool true])) w' := by
  refine ⟨none, 0, ?_, ?_, h⟩
  · rw [show (dg ((some 0 : Option Nat).getD 0)).length = 0 by rw [show (some 0 : Option Nat).getD 0 = 0 from rfl, dg_zero]; rfl]; rfl
  · rw [show (dg ((some 0 : Option Nat).getD 0)).length = 0 by rw [show (some 0 : Option Nat).getD 0 = 0 from rfl, dg_zero]; rfl]; exact Sl.none _ _ _ _
theorem retPw_some {V : Nat} {w w' : World} {x : Option Addr} {cx : Nat} {L : Nat} (hL : (dg V).length = L) (s : Sl .u16 w' x L (gi (dg V))) (h : Below w.heap.size w w') : RetPw (some V) w (.returned (.tuple #[.slice x L cx, .bool true])) w' := by
  subst hL
  exact ⟨x, cx, rfl, s, h⟩
theorem pow_len_up {b j e : Nat} (hb : 1 ≤ b) (hj : j ≤ e) (h : ¬ (dg (b ^ j)).length ≤ 256) : ¬ (dg (b ^ e)).length ≤ 256 := fun h2 => h (by
  refine dg_len_le (Nat.lt_of_le_of_lt (Nat.pow_le_pow_right hb hj) ?_)
  rcases Nat.lt_or_ge (b ^ e) (65536 ^ 256) with h3 | h3
  · exact h3
  · have := dg_len_gt h3; omega)
theorem pow_len_succ {b j : Nat} (hb : b ≤ 65535) : (dg (b ^ (j + 1))).length ≤ (dg (b ^ j)).length + 1 := by
  refine dg_len_le ?_
  have h := val_lt (dig_dg (b ^ j))
  rw [val_dg] at h
  rw [Nat.pow_succ, Nat.pow_succ]
  have h2 := Nat.mul_le_mul (Nat.le_of_lt h) (show b ≤ 65536 by omega)
  rcases Nat.eq_zero_or_pos b with h0 | h0
  · subst h0; simp; exact Nat.pow_pos (by decide)
  · have h3 : b ^ j * b < 65536 ^ (dg (b ^ j)).length * b := Nat.mul_lt_mul_of_pos_right h h0
    have h4 := Nat.mul_le_mul_left (65536 ^ (dg (b ^ j)).length) (show b ≤ 65536 by omega)
    omega
theorem dg_one_len : (dg 1).length = 1 := by rw [dg_pos (by decide), dg_zero]; rfl
set_option maxHeartbeats 3200000 in
set_option maxRecDepth 100000 in
theorem bigPower_any (B E : Int) (B0 : -9223372036854775808 ≤ B) (B1 : B ≤ 9223372036854775807) (E0 : -9223372036854775808 ≤ E) (E1 : E ≤ 9223372036854775807) (w : World) :
    Calls Tryd.prog 28 #[.int .i64 B, .int .i64 E] w (RetPw (powO B E) w) := by
  by_cases hbad : B < 0 ∨ 65535 < B ∨ E < 0
  · have ho : powO B E = none := by unfold powO; rw [if_pos hbad]
    rw [ho]
    rcases (show B < 0 ∨ (¬ B < 0 ∧ 65535 < B) ∨ (¬ B < 0 ∧ ¬ 65535 < B ∧ E < 0) by omega) with h | ⟨h, h2⟩ | ⟨h, h2, h3⟩
    all_goals
      clear hbad
      go_enter Tryd.func28, Tryd.ntmps28
      go_wp2_with fail
      go_ret2
      exact retPw_none (Below.refl _ _)
  · have hb0 : 0 ≤ B := by omega
    have hb1 : B ≤ 65535 := by omega
    have he0 : 0 ≤ E := by omega
    have O1 := Lib.hid (fun w => bigOf_any 1 1 rfl (by decide) w)
    by_cases h1 : E = 0 ∨ B = 1
    · have ho : powO B E = some 1 := by
        unfold powO
        rw [if_neg hbad]
        have e : B.toNat ^ E.toNat = 1 := by
          rcases h1 with h | h
          · rw [h]; simp
          · rw [h]; simp
        rw [e, if_pos (by rw [dg_one_len]; decide)]
      rw [ho]
      have hl := dg_one_len
      have HL := Lib.hid hl
      rcases (show E = 0 ∨ (¬ E = 0 ∧ B = 1) by omega) with h | ⟨h, h2⟩
      · subst h
        clear hbad h1 ho hl
        go_enter Tryd.func28, Tryd.ntmps28
        go_wp2_with fail
        with_reducible refine (O1.out _).mono ?_
        rintro e w1 ⟨x, cx, rfl, hcx, s, hb⟩
        have S := Lib.hid s
        clear s
        go_wp2_with fail
        go_ret2
        exact ⟨x, cx, rfl, S.out, hb⟩
      · subst h2
        have e0 : (E == 0) = false := beq_f h
        clear hbad h1 ho hl h
        go_enter Tryd.func28, Tryd.ntmps28
        go_wp2_with fail
        with_reducible refine (O1.out _).mono ?_
        rintro e w1 ⟨x, cx, rfl, hcx, s, hb⟩
        have S := Lib.hid s
        clear s
        go_wp2_with fail
        go_ret2
        exact ⟨x, cx, rfl, S.out, hb⟩
    · have e0 : (E == 0) = false := beq_f (by omega)
      have e1 : (B == 1) = false := beq_f (by omega)
      by_cases hB0 : B = 0
      · have ho : powO B E = some 0 := by
          unfold powO
          rw [if_neg hbad, hB0]
          have e : (0 : Int).toNat ^ E.toNat = 0 := by
            show 0 ^ E.toNat = 0
            exact Nat.zero_pow (by omega)
          rw [e, if_pos (by rw [dg_zero]; decide)]
        rw [ho]
        subst hB0
        clear hbad h1 ho
        go_enter Tryd.func28, Tryd.ntmps28
        go_wp2_with fail
        go_ret2
        exact retPw_zero (Below.refl _ _)
      · have e2 : (B == 0) = false := beq_f hB0
        obtain ⟨b, hb⟩ : ∃ b : Nat, B = (b : Int) := ⟨B.toNat, by omega⟩
        have hb2 : 2 ≤ b := by omega
        have hb3 : b ≤ 65535 := by omega
        obtain ⟨O, hO⟩ : ∃ O, powO B E = O := ⟨_, rfl⟩
        rw [hO]
        have HOs : Hid ((dg (b ^ E.toNat)).length ≤ 256 → O = some (b ^ E.toNat)) := Lib.hid (fun h => by
          rw [← hO]; unfold powO; rw [if_neg hbad, hb, Int.toNat_natCast, if_pos h])
        have HOn : Hid (¬ (dg (b ^ E.toNat)).length ≤ 256 → O = none) := Lib.hid (fun h => by
          rw [← hO]; unfold powO; rw [if_neg hbad, hb, Int.toNat_natCast, if_neg h])
        have MO := Lib.hid (fun (j : Nat) (x : Option Addr) (L cx : Nat) (hL : (dg (b ^ j)).length = L) (hz : L ≤ 2000) w h => more_any x L cx (dg (b ^ j)) b 0 B 0 hb rfl hL hz (can_dg _) (by omega) hb3 (by decide) w h)
        have IS := Lib.hid (fun (V : Nat) (x : Option Addr) (L cx : Nat) (hL : (dg V).length = L) (hz : L ≤ 100000) w h => bigIs_any x L cx (dg V) hL hz w h)
        have HB := Lib.hid hb
        have H2 := Lib.hid hb2
        have H3 := Lib.hid hb3
        clear hbad h1 hO hb hb2 hb3
        go_enter Tryd.func28, Tryd.ntmps28
        go_wp2_with fail
        with_reducible refine (O1.out _).mono ?_
        rintro e w1 ⟨x, cx, rfl, hcx, s, hb1'⟩
        have S1 : Hid (Sl .u16 w1 x (dg 1).length (gi (dg (b ^ 0)))) := Lib.hid s
        have hl1 := dg_one_len
        rw [hl1] at S1 ⊢
        have HL1 := Lib.hid hl1
        clear s hl1 hcx
        go_wp2_with fail
        go_loopw [1, 6] (fun q p wr => ∃ (j L : Nat) (y : Int) (x : Option Addr) (cx : Nat), q = .int .i64 y ∧ p = .slice x L cx ∧ Hid (y = E - j) ∧ 0 ≤ y ∧ y ≤ 9223372036854775807 ∧ Hid ((dg (b ^ j)).length = L) ∧ L ≤ 256 ∧ Sl .u16 wr x L (gi (dg (b ^ j))) ∧ Below w.heap.size w wr) (fun q _ _ => (intOf q).toNat)
        case atStart => exact ⟨0, 1, E, x, cx, rfl, rfl, Lib.hid (by omega), he0, E1, HL1, by decide, S1.out, hb1'⟩
        case round =>
          clear S1 hb1'
          obtain ⟨j, L, y, x, cx, rfl, rfl, hy, y0, y1, hL, L256, hs, hbw⟩ := hrel
          by_cases hyp : 0 < y
          · have MM := MO.out j x L cx hL.out (by omega) wr hs
            rw [val_dg, Nat.add_zero, ← Nat.pow_succ] at MM
            obtain ⟨M, hM⟩ : ∃ M, (dg (b ^ (j + 1))).length = M := ⟨_, rfl⟩
            have hM1 : M ≤ 257 := by
              have := pow_len_succ (b := b) (j := j) H3.out
              have := hL.out
              omega
            have MM := Lib.hid (MM.mono (fun e w' (h : RetU _ _ _ _) => memU_of h hM))
            unfold MemU at MM
            have HM := Lib.hid hM
            have HY := Lib.hid (show y - 1 = E - ((j + 1 : Nat) : Int) by have := hy.out; omega)
            have hzw := hbw.size
            clear hs hM
            go_wp2_with fail
            with_reducible refine (MM.out).mono ?_
            rintro e w2 ⟨x2, cx2, rfl, s2, hb2'⟩
            have hw2 : Below w.heap.size w w2 := hbw.trans (hb2'.mono hzw)
            have S2 := Lib.hid s2
            have II := IS.out (b ^ (j + 1)) x2 M cx2 HM.out (by omega) w2 s2
            clear hb2' s2
            by_cases hM256 : M ≤ 256
            · rw [isB_dg (v := b ^ (j + 1)) (k := 256) (by rw [HM.out]; exact hM256) (by decide)] at II
              have II := Lib.hid II
              go_wp2_with fail
              with_reducible refine (II.out).mono ?_
              rintro e w' ⟨rfl, rfl⟩
              go_wp2_with fail
              go_roundw
              case rel => exact ⟨j + 1, M, y - 1, x2, cx2, rfl, rfl, HY, by omega, by omega, HM, hM256, S2.out, hw2⟩
              case measure => first | (simp [intOf]; done) | (simp [intOf]; omega)
            · have hno : isB (dg (b ^ (j + 1))) = false := by
                cases h : isB (dg (b ^ (j + 1))) with
                | false => rfl
                | true => have := (isB_iff.1 h).1; rw [HM.out] at this; omega
              rw [hno] at II
              have hON : O = none := HOn.out (pow_len_up (j := j + 1) (by have := H2.out; omega) (by have := hy.out; omega) (by rw [HM.out]; exact hM256))
              subst hON
              have II := Lib.hid II
              clear hno HOn HOs
              go_wp2_with fail
              with_reducible refine (II.out).mono ?_
              rintro e w' ⟨rfl, rfl⟩
              go_wp2_with fail
              go_ret2
              exact retPw_none hw2
          · have hjE : j = E.toNat := by have := hy.out; omega
            subst hjE
            have hOS := HOs.out (by rw [hL.out]; exact L256)
            subst hOS
            have HSL := Lib.hid hs
            clear HOn HOs hs hy
            go_wp2_with fail
            go_ret2
            exact retPw_some hL.out HSL.out hbw
set_option maxHeartbeats 3200000 in
set_option maxRecDepth 100000 in
theorem refPower_any (B E : Int) (B0 : -9223372036854775808 ≤ B) (B1 : B ≤ 9223372036854775807) (E0 : -9223372036854775808 ≤ E) (E1 : E ≤ 9223372036854775807) (w : World) :
    Calls Tryd.prog 29 #[.int .i64 B, .int .i64 E] w (RetPw (powO B E) w) := by
  by_cases hbad : B < 0 ∨ 65535 < B ∨ E < 0
  · have ho : powO B E = none := by unfold powO; rw [if_pos hbad]
    rw [ho]
    rcases (show B < 0 ∨ (¬ B < 0 ∧ 65535 < B) ∨ (¬ B < 0 ∧ ¬ 65535 < B ∧ E < 0) by omega) with h | ⟨h, h2⟩ | ⟨h, h2, h3⟩
    all_goals
      clear hbad
      go_enter Tryd.func29, Tryd.ntmps29
      go_wp2_with fail
      go_ret2
      exact retPw_none (Below.refl _ _)
  · have hb0 : 0 ≤ B := by omega
    have hb1 : B ≤ 65535 := by omega
    have he0 : 0 ≤ E := by omega
    have O1 := Lib.hid (fun w => refOf_any 1 1 rfl (by decide) w)
    by_cases hBE : B = 0 ∧ 0 < E
    · obtain ⟨hB0, hE⟩ := hBE
      have ho : powO B E = some 0 := by
        unfold powO
        rw [if_neg hbad, hB0]
        have e : (0 : Int).toNat ^ E.toNat = 0 := by
          show 0 ^ E.toNat = 0
          exact Nat.zero_pow (by omega)
        rw [e, if_pos (by rw [dg_zero]; decide)]
      rw [ho]
      subst hB0
      clear hbad ho
      go_enter Tryd.func29, Tryd.ntmps29
      go_wp2_with fail
      go_ret2
      exact retPw_zero (Below.refl _ _)
    · obtain ⟨b, hb⟩ : ∃ b : Nat, B = (b : Int) := ⟨B.toNat, by omega⟩
      obtain ⟨O, hO⟩ : ∃ O, powO B E = O := ⟨_, rfl⟩
      rw [hO]
      have HOs : Hid ((dg (b ^ E.toNat)).length ≤ 256 → O = some (b ^ E.toNat)) := Lib.hid (fun h => by
        rw [← hO]; unfold powO; rw [if_neg hbad, hb, Int.toNat_natCast, if_pos h])
      have HOn : Hid (¬ (dg (b ^ E.toNat)).length ≤ 256 → O = none) := Lib.hid (fun h => by
        rw [← hO]; unfold powO; rw [if_neg hbad, hb, Int.toNat_natCast, if_neg h])
      have hl1 := dg_one_len
      have HL1 := Lib.hid hl1
      have HB := Lib.hid hb
      have HBE := Lib.hid hBE
      have hsplit : Hid (B = 0 → E = 0) := Lib.hid (fun h => by omega)
      have OB := Lib.hid (fun w => refOf_any b B hb (by omega) w)
      have hb3 : b ≤ 65535 := by omega
      have hdb : (dg b).length ≤ 1 := dg_len_le (by show b < 65536 ^ 1; omega)
      have MU := Lib.hid (fun (j : Nat) (x y : Option Addr) (L cx M cy : Nat) (hL : (dg (b ^ j)).length = L) (hM : (dg b).length = M) (hz : L ≤ 1000) w h g => refMul_any x y L cx M cy (dg (b ^ j)) (dg b) hL hM hz (by omega) (dig_dg _) (dig_dg _) w h g)
      have H3 := Lib.hid hb3
      by_cases hz : B = 0
      · have hE : E = 0 := by omega
        subst hE
        have hOS := HOs.out (by show (dg (b ^ 0)).length ≤ 256; rw [Nat.pow_zero, dg_one_len]; decide)
        subst hOS
        subst hz
        clear hbad hO hb hBE hdb hb3 hl1 HOs HOn
        go_enter Tryd.func29, Tryd.ntmps29
        go_wp2_with fail
        with_reducible refine (O1.out _).mono ?_
        rintro e w1 ⟨x, cx, rfl, hcx, s, hb1'⟩
        have S1 := Lib.hid s
        clear s hcx
        go_wp2_with fail
        go_loop [6, 7] (fun p q => p = .slice x (dg 1).length cx ∧ q = .int .i64 0) (fun _ _ => 0)
        case atStart => exact ⟨rfl, rfl⟩
        case round =>
          obtain ⟨rfl, rfl⟩ := hrel
          go_wp2_with fail
          go_ret2
          exact retPw_some (V := b ^ 0) rfl S1.out hb1'
      · have e2 : (B == 0) = false := beq_f hz
        clear hbad hO hb hBE hdb hb3 hz
        go_enter Tryd.func29, Tryd.ntmps29
        go_wp2_with fail
        with_reducible refine (O1.out _).mono ?_
        rintro e w1 ⟨x, cx, rfl, hcx, s, hb1'⟩
        have S1 : Hid (Sl .u16 w1 x (dg 1).length (gi (dg (b ^ 0)))) := Lib.hid s
        rw [hl1] at S1 ⊢
        clear s hl1 hcx
        go_wp2_with fail
        go_loopw [6, 7] (fun p q wr => ∃ (j L : Nat) (x : Option Addr) (cx : Nat), q = .int .i64 j ∧ p = .slice x L cx ∧ (j : Int) ≤ E ∧ Hid ((dg (b ^ j)).length = L) ∧ L ≤ 256 ∧ Sl .u16 wr x L (gi (dg (b ^ j))) ∧ Below w.heap.size w wr) (fun _ q _ => (E - intOf q).toNat)
        case atStart => exact ⟨0, 1, x, cx, rfl, rfl, he0, HL1, by decide, S1.out, hb1'⟩
        case round =>
          clear S1 hb1'
          obtain ⟨j, L, x, cx, rfl, rfl, hjE, hL, L256, hs, hbw⟩ := hrel
          by_cases hgo : (j : Int) < E ∧ 1 < B
          · obtain ⟨g1, g2⟩ := hgo
            obtain ⟨M, hM⟩ : ∃ M, (dg (b ^ (j + 1))).length = M := ⟨_, rfl⟩
            have hM1 : M ≤ 257 := by
              have := pow_len_succ (b := b) (j := j) H3.out
              have := hL.out
              omega
            have HM := Lib.hid hM
            have hzw := hbw.size
            have ewB : IntKind.u64.wrap B = B := IntWalk.u64_in _ (by omega)
            have HSS := Lib.hid hs
            clear hs hM
            go_wp2_with fail
            with_reducible refine (OB.out _).mono ?_
            rintro e w2 ⟨x2, cx2, rfl, hcx2, s2, hb2'⟩
            have s1 := HSS.out.beyond hb2'
            have hw2 : Below w.heap.size w w2 := hbw.trans (hb2'.mono hzw)
            have MM := MU.out j x x2 L cx _ cx2 hL.out rfl (by omega) w2 s1 s2
            rw [val_dg, val_dg, ← Nat.pow_succ] at MM
            have MM := Lib.hid (MM.mono (fun e w' (h : RetU _ _ _ _) => memU_of h HM.out))
            unfold MemU at MM
            clear hb2' s2 s1 hcx2 HSS
            generalize (dg b).length = Lb at *
            go_wp2_with fail
            with_reducible refine (MM.out).mono ?_
            rintro e w3 ⟨x3, cx3, rfl, s3, hb3'⟩
            have hw3 : Below w.heap.size w w3 := hw2.trans (hb3'.mono hw2.size)
            have S3 := Lib.hid s3
            clear hb3' s3
            by_cases hM256 : M ≤ 256
            · go_wp2_with fail
              go_roundw
              case rel => exact ⟨j + 1, M, x3, cx3, by go_num, rfl, by omega, HM, hM256, S3.out, hw3⟩
              case measure => first | (simp [intOf]; done) | (simp [intOf]; omega)
            · have hON : O = none := HOn.out (pow_len_up (j := j + 1) (by have := HB.out; omega) (by omega) (by rw [HM.out]; exact hM256))
              subst hON
              clear HOn HOs
              go_wp2_with fail
              go_ret2
              exact retPw_none hw3
          · have hOS : O = some (b ^ j) := by
              have hL2 := hL.out
              have hdisj : (j : Int) = E ∨ b = 1 := by
                have h1 := HB.out
                have h2 := hsplit.out
                by_cases h3 : (j : Int) < E
                · right
                  have : ¬ 1 < B := fun h4 => hgo ⟨h3, h4⟩
                  omega
                · left; omega
              rcases hdisj with h | h
              · have e : E.toNat = j := by omega
                have := HOs.out (by rw [e, hL2]; exact L256)
                rw [e] at this; exact this
              · have := HOs.out (by rw [h, Nat.one_pow, dg_one_len]; decide)
                rw [h, Nat.one_pow] at this ⊢
                exact this
            subst hOS
            have HSL := Lib.hid hs
            have HGO := Lib.hid hgo
            clear HOn HOs hs
            by_cases g1 : (j : Int) < E
            · have g2 : ¬ 1 < B := fun h => HGO.out ⟨g1, h⟩
              clear hgo
              go_wp2_with fail
              go_ret2
              exact retPw_some hL.out HSL.out hbw
            · clear hgo
              go_wp2_with fail
              go_ret2
              exact retPw_some hL.out HSL.out hbw
end
section
open Go.RowKit
set_option linter.unusedSimpArgs false
set_option linter.unusedVariables false
attribute [local irreducible] Fl.K
theorem u16_cells {l : List Nat} : ∀ u ∈ l.map (fun d : Nat => Value.int .u16 (d : Int)), u.oneCell' = true := fun u hu => by
  obtain ⟨d, _, rfl⟩ := List.mem_map.1 hu
  rfl
theorem own_made (w : World) (base q : Nat) (hb : base ≤ w.heap.size) (hq : q ≤ maxLen) : (w.alloc (.cells (madeCells #[.int .u16 0] q) 45)).ownsRow base 45 1 (.slice (some ⟨w.heap.size, 0, none⟩) q q) q ((List.replicate q 0).map fun d : Nat => Value.int .u16 (d : Int)) := by
  have e : (madeCells #[Value.int .u16 0] q).toList = (List.replicate q 0).map fun d : Nat => Value.int .u16 (d : Int) := by
    rw [toList_madeCells_one, List.map_replicate]; rfl
  refine ⟨by simp, .inr ⟨w.heap.size, q, madeCells #[.int .u16 0] q, rfl, hb, heap_alloc_new w _, Nat.le_refl _, hq, ?_, ?_⟩⟩
  · rw [← Array.length_toList, e]; simp
  · rw [e, Nat.mul_one]; exact List.take_of_length_le (by simp)
theorem ownA_news {w : World} {base g cap n : Nat} {l : List Nat} (h : OwnA w base g cap n l) : ∀ j u, (l.map fun d : Nat => Value.int .u16 (d : Int))[j]? = some u → w.cell? ((⟨g, 0, none⟩ : Addr).add j) = some u := fun j u hj => World.ownsRow.cells h.2 rfl j u hj
set_option maxHeartbeats 3200000 in
set_option maxRecDepth 100000 in
theorem bigUp_yes (ad : Option Addr) (n c : Nat) (a : List Nat) (N : Int) (q s : Nat) (hq : N / 16 = (q : Int)) (hs : N % 16 = (s : Int)) (N0 : 0 ≤ N) (N1 : N ≤ 4096) (hn : a.length = n) (hn0 : 1 ≤ n) (ha : isB a = true) (da : DigL a) (w : World) (hS : Sl .u16 w ad n (gi a)) :
    Calls Tryd.prog 27 #[.slice ad n c, .int .i64 N] w (RetU (dg (valL a * (65536 ^ q * 2 ^ s))) w) := by
  obtain ⟨i0, hi, iz0, iz1, iz2⟩ := info_parts info_u16
  have hn256 : n ≤ 256 := by have := (isB_iff.1 ha).1; omega
  have hs15 : s ≤ 15 := by omega
  have hq256 : q ≤ 256 := by omega
  have hca : Can a := ⟨da, (isB_iff.1 ha).2⟩
  have hv0 : valL a * 2 ^ s ≠ 0 := by
    have h1 := hca.ge (by omega)
    have h2 : 1 ≤ 65536 ^ (a.length - 1) := Nat.one_le_pow _ _ (by decide)
    have h3 := Nat.one_le_two_pow (n := s)
    exact Nat.ne_of_gt (Nat.mul_pos (by omega) (by omega))
  have I1 := Lib.hid (ha ▸ bigIs_any ad n c a hn (by omega) w hS)
  obtain ⟨S, hSS⟩ : ∃ S : Int, N % 16 = S := ⟨_, rfl⟩
  have UC := fun w h => up_any ad n c a s S (by omega) hs15 hn (by omega) hca w h
  obtain ⟨R, hR⟩ : ∃ R, dg (valL a * 2 ^ s) = R := ⟨_, rfl⟩
  obtain ⟨F, hF⟩ : ∃ F, dg (valL a * (65536 ^ q * 2 ^ s)) = F := ⟨_, rfl⟩
  have hFR : List.replicate q 0 ++ R = F := by
    rw [← hF, ← hR, dg_shift hv0]
    congr 1
    rw [← Nat.mul_assoc, ← Nat.mul_assoc, Nat.mul_comm (65536 ^ q) (valL a)]
  have hRl : R.length ≤ n + 1 := by
    rw [← hR]
    refine dg_len_le ?_
    have h1 := val_lt da
    have h2 : 2 ^ s ≤ 65536 := Nat.le_trans (Nat.pow_le_pow_right (n := 2) (by decide) hs15) (by decide)
    have h3 := Nat.mul_le_mul_left (65536 ^ a.length) h2
    have h4 := Nat.mul_lt_mul_of_pos_right h1 (Nat.pow_pos (n := s) (show 0 < 2 by decide))
    rw [hn] at h3 h4
    rw [Nat.pow_succ]
    omega
  have hL0 : 0 < R.length := by rw [← hR]; exact dg_len0 hv0
  rw [hR] at UC
  rw [hF]
  have UC := Lib.hid UC
  have HL0 := Lib.hid hL0
  have HNE := Lib.hid (show R.length ≠ 0 by omega)
  have HF := Lib.hid hFR
  have HS := Lib.hid hS
  have HS1 : Hid (Sl .u16 w.drew ad n (gi a)) := Lib.hid hS
  have HS2 : Hid (Sl .u16 ((w.alloc (.cells (madeCells #[.int .u16 0] q) 45)).drew) ad n (gi a)) := Lib.hid (hS.alloc _)
  have MK := fun w => run_make_row' (P := Tryd.prog) 23 45 (.int .u16 0) 2 Tryd.underlying23 info_u16 rfl .i64 .i64 q (by omega) (by omega) w
  have S0 : 0 ≤ S := by omega
  have S1 : S ≤ 15 := by omega
  have e1 : IntKind.i64.wrap (N.tdiv 16) = (q : Int) := by rw [Int.tdiv_eq_ediv_of_nonneg N0, hq]; exact IntWalk.i64_in _ (by omega)
  have e2 : N.tmod 16 = S := by rw [Int.tmod_eq_emod_of_nonneg N0, hSS]
  have e3 : IntKind.i64.wrap S = S := IntWalk.i64_in _ (by omega)
  have e0 : ((n : Int) == 0) = false := beq_f (by omega)
  clear hS hn ha da hca hv0 hR hF hFR hq hs hSS hL0
  go_enter Tryd.func27, Tryd.ntmps27
  go_wp2_with fail
  with_reducible refine (I1.out).mono ?_
  rintro e w' ⟨rfl, rfl⟩
  go_wp2_with fail
  go_region_law (first | (go_simp; go_at_call 47; (with_reducible refine (UC.out _ HS1.out).mono ?_); rintro e w2 ⟨v2, rfl, o2, hb2⟩; obtain ⟨g2, c2, rfl, hg2, hc2, oA⟩ := ownA_of o2 HNE.out; have hz2 := hb2.size; have hlt2 := oA.lt; replace oA := Lib.hid oA) | (go_simp; go_at_call 47; (with_reducible refine (UC.out _ HS2.out).mono ?_); rintro e w2 ⟨v2, rfl, o2, hb2⟩; obtain ⟨g2, c2, rfl, hg2, hc2, oA⟩ := ownA_of o2 HNE.out; have hz2 := hb2.size; have hlt2 := oA.lt; replace oA := Lib.hid oA) | (refine step_append_lies _ (by rfl) (.tmp 23) (.tmp 27) 23 (by rfl) w.heap.size 45 i0 (.int .u16 0) 1 2 Tryd.underlying23 hi iz0 iz1 iz2 (by rfl) (by decide) (.slice (some ⟨w.heap.size, 0, none⟩) q q) q ((List.replicate q 0).map fun d : Nat => Value.int .u16 (d : Int)) (by rfl) (owns_beyond (own_made w.drew w.heap.size q (Nat.le_refl _) (by unfold maxLen; omega)) hb2) ⟨g2, 0, none⟩ R.length c2 (R.map fun d : Nat => Value.int .u16 (d : Int)) (by rfl) (by simp) (ownA_news oA.out) u16_cells HL0.out (by unfold maxLen; omega) (by omega) (by simp at hz2; omega) _ rfl ?_; intro g6 cap6 w6 hown6 hgrow6 hat6 hlt6) | (refine step_append_lies _ (by rfl) (.tmp 23) (.tmp 27) 23 (by rfl) w.heap.size 45 i0 (.int .u16 0) 1 2 Tryd.underlying23 hi iz0 iz1 iz2 (by rfl) (by decide) (.slice (some ⟨w2.heap.size, 0, none⟩) q q) q ((List.replicate q 0).map fun d : Nat => Value.int .u16 (d : Int)) (by rfl) (own_made w2 w.heap.size q (by simp at hz2; omega) (by unfold maxLen; omega)) ⟨g2, 0, none⟩ R.length c2 (R.map fun d : Nat => Value.int .u16 (d : Int)) (by rfl) (by simp) (ownA_news (oA.out.beyond ((Below.refl w2.heap.size w2).alloc (Nat.le_refl _) _))) u16_cells HL0.out (by unfold maxLen; omega) (by omega) (by simp at hz2; simp; omega) _ rfl ?_; intro g6 cap6 w6 hown6 hgrow6 hat6 hlt6))
  all_goals
    have hw6 : Below w.heap.size w w6 := by
      first
        | exact Below.grown ((((Below.refl w.heap.size w).alloc (Nat.le_refl _) _).drew).trans (hb2.mono (by simp))) hgrow6 (by simp at hz2; first | omega | (simp; omega)) (fun k hk => by simp [Value.ownBlock] at hk; omega)
        | exact Below.grown ((((Below.refl w.heap.size w).drew).trans hb2).alloc (by simp at hz2; omega) _) hgrow6 (by simp at hz2; first | omega | (simp; omega)) (fun k hk => by simp [Value.ownBlock] at hk; simp at hz2; omega)
    have O6 : OwnU w6 w.heap.size (.slice (some ⟨g6, 0, none⟩) (q + R.length) cap6) F := by
      unfold OwnU
      rw [← HF.out, List.length_append, List.length_replicate, List.map_append]
      exact hown6
    have HO := Lib.hid O6
    clear hgrow6 hown6 hat6 O6 hb2 o2 oA
    go_wp2_with fail
    go_ret
    exact ret_own HO.out hw6
set_option maxHeartbeats 1600000 in
set_option maxRecDepth 100000 in
theorem bigUp_nil (ad : Option Addr) (n c : Nat) (a : List Nat) (N : Int) (N9 : -9223372036854775808 ≤ N) (N8 : N ≤ 9223372036854775807) (hn : a.length = n) (hz : n ≤ 1000) (hno : isB a = false ∨ N < 0 ∨ 4096 < N ∨ n = 0) (w : World) (hS : Sl .u16 w ad n (gi a)) :
    Calls Tryd.prog 27 #[.slice ad n c, .int .i64 N] w fun e w' => e = .returned (.slice none 0 0) ∧ w = w' := by
  have I1 := bigIs_any ad n c a hn (by omega) w hS
  cases ha : isB a with
  | false =>
    rw [ha] at I1
    have I1 := Lib.hid I1
    clear hno ha hS hn
    go_enter Tryd.func27, Tryd.ntmps27
    go_wp2_with fail
    with_reducible refine (I1.out).mono ?_
    rintro e w' ⟨rfl, rfl⟩
    go_wp2_with fail
    go_ret
    exact ⟨rfl, rfl⟩
  | true =>
    have h2 : N < 0 ∨ (¬ N < 0 ∧ 4096 < N) ∨ (¬ N < 0 ∧ ¬ 4096 < N ∧ n = 0) := by
      rcases hno with h | h
      · rw [ha] at h; cases h
      · omega
    rw [ha] at I1
    have I1 := Lib.hid I1
    clear hno ha hS hn
    rcases h2 with h | ⟨h, h3⟩ | ⟨h, h3, rfl⟩
    all_goals
      go_enter Tryd.func27, Tryd.ntmps27
      go_wp2_with fail
      with_reducible refine (I1.out).mono ?_
      rintro e w' ⟨rfl, rfl⟩
      go_wp2_with fail
      go_ret
      exact ⟨rfl, rfl⟩
end
end Go.Proofs.YthlpimdpgmknoaaDoor
