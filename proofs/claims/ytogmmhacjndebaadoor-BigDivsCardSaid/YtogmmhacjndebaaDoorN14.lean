/- Contracts of the reference's Add and Sub. Conditions: as each says. -/
import Derived.Test.YtogmmhacjndebaaDoorN12
import Derived.Outline
namespace Go.Proofs.YtogmmhacjndebaaDoor
open Go.RowKit
set_option linter.unusedSimpArgs false
set_option linter.unusedVariables false
attribute [local irreducible] Fl.K
set_option maxHeartbeats 6400000 in
set_option maxRecDepth 100000 in
theorem refAdd_any (ad bd : Option Addr) (n c m d : Nat) (a b : List Nat) (hn : a.length = n) (hm : b.length = m) (hz : n ≤ 1000) (hz2 : m ≤ 1000) (ha : Can a) (hb : Can b) (w : World) (hS : Sl .u16 w ad n (gi a)) (hT : Sl .u16 w bd m (gi b)) :
    Calls Tryd.prog 9 #[.slice ad n c, .slice bd m d] w (RetU (dg (valL a + valL b)) w) := by
  obtain ⟨i0, hi, iz0, iz1, iz2⟩ := info_parts info_u16
  obtain ⟨N, hNe⟩ : ∃ N, max n m = N := ⟨_, rfl⟩
  have hR0 := addL_can ha hb (n := N) (by omega)
  obtain ⟨R, hR⟩ : ∃ R, dg (valL a + valL b) = R := ⟨_, rfl⟩
  rw [hR] at hR0 ⊢
  have HR := Lib.hid hR0
  have HS := Lib.hid hS
  have HT := Lib.hid hT
  have HN := Lib.hid hn
  have HM := Lib.hid hm
  have HI := Lib.hid (fun K => gi_bd ha.1 K)
  have HJ := Lib.hid (fun K => gi_bd hb.1 K)
  have HCL := Lib.hid (fun K => adC_le ha.1 hb.1 K)
  have hNn : n ≤ N ∧ m ≤ N ∧ (N = n ∨ N = m) ∧ N ≤ 1000 := by omega
  obtain ⟨N1, N2, N3, N4⟩ := hNn
  replace N3 := Lib.hid N3
  clear hS hT hn hm ha hb hR hR0 hNe
  go_enter Tryd.func9, Tryd.ntmps9
  go_wp2_with fail
  go_loopw [5, 6, 7] (fun p q i wr => ∃ (K : Nat) (x : Int) (l : List Nat), K ≤ N + 1 ∧ i = .int .i64 K ∧ q = .int .i64 x ∧ OwnU wr w.heap.size p l ∧ l.length ≤ K ∧ Hid (l = (List.range K).map (adD a b)) ∧ Hid (x = ((adC a b K : Nat) : Int)) ∧ 0 ≤ x ∧ x ≤ 1 ∧ Hid (K ≤ N ∨ (x = 0 ∧ adC a b N ≠ 0)) ∧ Below w.heap.size w wr) (fun _ _ i _ => N + 1 - (intOf i).toNat)
  case atStart => exact ⟨0, 0, [], by omega, rfl, rfl, OwnU.nil _ _, Nat.le_refl _, Lib.hid rfl, Lib.hid rfl, by decide, by decide, Lib.hid (Or.inl (Nat.zero_le _)), Below.refl _ _⟩
  case round =>
    obtain ⟨K, x, l, hK, rfl, rfl, hown, hl, HL, hx, x0, x1, HE, hbw⟩ := hrel
    obtain ⟨wo, rfl⟩ : ∃ wo : World, wo = wr := ⟨_, rfl⟩
    have hzo := hbw.size
    replace hown := Lib.hid hown
    by_cases hgo : K < N ∨ (K = N ∧ 0 < x)
    · have bx := HI.out K
      have by0 := HJ.out K
      have hmax := HCL.out (K + 1)
      obtain ⟨v, hv⟩ : ∃ v : Int, v = x + gi a K + gi b K := ⟨_, rfl⟩
      have hD : Hid (v % 65536 = ((adD a b K : Nat) : Int)) := Lib.hid (by rw [hv, hx.out]; unfold adD gi; omega)
      have HC : Hid (v / 65536 = ((adC a b (K + 1) : Nat) : Int)) := Lib.hid (by rw [hv, hx.out, adC]; unfold gi; omega)
      have HC2 : Hid (0 ≤ v / 65536 ∧ v / 65536 ≤ 1) := Lib.hid (by rw [HC.out]; omega)
      have HL2 : Hid (l ++ [adD a b K] = (List.range (K + 1)).map (adD a b)) := Lib.hid (by rw [range_succ_map, HL.out])
      have hl2 : Hid ((l ++ [adD a b K]).length ≤ K + 1) := Lib.hid (by rw [List.length_append, List.length_singleton]; omega)
      have HEE : Hid (K + 1 ≤ N ∨ (K = N ∧ 0 < x)) := Lib.hid (by omega)
      have hKN1 : K ≤ N := by omega
      have HE2 : Hid (K + 1 ≤ N ∨ (v / 65536 = 0 ∧ adC a b N ≠ 0)) := Lib.hid (by
        rcases HEE.out with h | ⟨h1, h2⟩
        · exact Or.inl h
        · right
          subst h1
          have e1 : gi a K = 0 := by unfold gi; rw [getD_out (by have := HN.out; omega)]; rfl
          have e2 : gi b K = 0 := by unfold gi; rw [getD_out (by have := HM.out; omega)]; rfl
          have h3 := hx.out
          rw [hv, e1, e2]
          exact ⟨by omega, by omega⟩)
      by_cases hKn : K < n
      · by_cases hKm : K < m
        · clear hgo
          obtain ⟨ax, rfl, hax, hcx⟩ := HS.out.beyond hbw K hKn
          obtain ⟨ay, rfl, hay, hcy⟩ := HT.out.beyond hbw K hKm
          have hv2 : x + gi a K + gi b K = v := hv.symm
          generalize gi a K = u at *
          obtain ⟨u0, u1⟩ := bx
          generalize gi b K = t at *
          obtain ⟨t0, t1⟩ := by0
          have v0 : 0 ≤ v := by omega
          have v1 : v ≤ 131071 := by omega
          clear hv
          have eW : IntKind.u16.wrap (v % 65536) = v % 65536 := by rw [IntKind.wrap_u16]; omega
          go_wp2_with (at_builtin; refine wpList_append_own _ rfl _ _ 22 rfl w.heap.size 31 i0 (.int .u16 0) 1 2 Tryd.underlying22 hi iz0 iz1 iz2 rfl (by decide) _ _ _ rfl (hown.out.alloc _) ⟨wo.heap.size, 0, none⟩ 1 1 [.int .u16 (v % 65536)] rfl rfl (cell_one_new _ _ _) one_u16 (by unfold maxLen; omega) (by omega) (by first | assumption | (simp; omega)) ?_; intro v5 w5 hown5 hgrow5 _)
          have hw5 : Below w.heap.size w w5 := Below.grown (hbw.alloc (by first | assumption | omega) _) hgrow5 (by first | assumption | (simp; omega)) (fun k hk => own_lt hown.out k hk)
          clear hgrow5
          have O5 := Lib.hid (own_app (d := adD a b K) hD.out hown5)
          clear hown5
          go_wp2_with fail
          go_roundw
          case rel => exact ⟨K + 1, v / 65536, l ++ [adD a b K], by omega, by go_num, rfl, O5.out, hl2.out, HL2, HC, HC2.out.1, HC2.out.2, HE2, hw5⟩
          case measure => first | (simp [intOf]; done) | (simp [intOf]; omega)
        · clear hgo
          obtain ⟨ax, rfl, hax, hcx⟩ := HS.out.beyond hbw K hKn
          have hy0 : gi b K = 0 := by unfold gi; rw [getD_out (by have := HM.out; omega)]; rfl
          rw [hy0, Int.add_zero] at hv
          clear hy0 by0
          have hv2 : x + gi a K = v := hv.symm
          generalize gi a K = u at *
          obtain ⟨u0, u1⟩ := bx
          have v0 : 0 ≤ v := by omega
          have v1 : v ≤ 131071 := by omega
          clear hv
          have nB : ¬ (K : Int) < (m : Int) := by omega
          have eW : IntKind.u16.wrap (v % 65536) = v % 65536 := by rw [IntKind.wrap_u16]; omega
          go_wp2_with (at_builtin; refine wpList_append_own _ rfl _ _ 22 rfl w.heap.size 31 i0 (.int .u16 0) 1 2 Tryd.underlying22 hi iz0 iz1 iz2 rfl (by decide) _ _ _ rfl (hown.out.alloc _) ⟨wo.heap.size, 0, none⟩ 1 1 [.int .u16 (v % 65536)] rfl rfl (cell_one_new _ _ _) one_u16 (by unfold maxLen; omega) (by omega) (by first | assumption | (simp; omega)) ?_; intro v5 w5 hown5 hgrow5 _)
          have hw5 : Below w.heap.size w w5 := Below.grown (hbw.alloc (by first | assumption | omega) _) hgrow5 (by first | assumption | (simp; omega)) (fun k hk => own_lt hown.out k hk)
          clear hgrow5
          have O5 := Lib.hid (own_app (d := adD a b K) hD.out hown5)
          clear hown5
          go_wp2_with fail
          go_roundw
          case rel => exact ⟨K + 1, v / 65536, l ++ [adD a b K], by omega, by go_num, rfl, O5.out, hl2.out, HL2, HC, HC2.out.1, HC2.out.2, HE2, hw5⟩
          case measure => first | (simp [intOf]; done) | (simp [intOf]; omega)
      · by_cases hKm : K < m
        · clear hgo
          obtain ⟨ay, rfl, hay, hcy⟩ := HT.out.beyond hbw K hKm
          have hx0 : gi a K = 0 := by unfold gi; rw [getD_out (by have := HN.out; omega)]; rfl
          rw [hx0, Int.add_zero] at hv
          clear hx0 bx
          have hv2 : x + gi b K = v := hv.symm
          generalize gi b K = t at *
          obtain ⟨t0, t1⟩ := by0
          have v0 : 0 ≤ v := by omega
          have v1 : v ≤ 131071 := by omega
          clear hv
          have nA : ¬ (K : Int) < (n : Int) := by omega
          have eW : IntKind.u16.wrap (v % 65536) = v % 65536 := by rw [IntKind.wrap_u16]; omega
          go_wp2_with (at_builtin; refine wpList_append_own _ rfl _ _ 22 rfl w.heap.size 31 i0 (.int .u16 0) 1 2 Tryd.underlying22 hi iz0 iz1 iz2 rfl (by decide) _ _ _ rfl (hown.out.alloc _) ⟨wo.heap.size, 0, none⟩ 1 1 [.int .u16 (v % 65536)] rfl rfl (cell_one_new _ _ _) one_u16 (by unfold maxLen; omega) (by omega) (by first | assumption | (simp; omega)) ?_; intro v5 w5 hown5 hgrow5 _)
          have hw5 : Below w.heap.size w w5 := Below.grown (hbw.alloc (by first | assumption | omega) _) hgrow5 (by first | assumption | (simp; omega)) (fun k hk => own_lt hown.out k hk)
          clear hgrow5
          have O5 := Lib.hid (own_app (d := adD a b K) hD.out hown5)
          clear hown5
          go_wp2_with fail
          go_roundw
          case rel => exact ⟨K + 1, v / 65536, l ++ [adD a b K], by omega, by go_num, rfl, O5.out, hl2.out, HL2, HC, HC2.out.1, HC2.out.2, HE2, hw5⟩
          case measure => first | (simp [intOf]; done) | (simp [intOf]; omega)
        · have hxp : 0 < x := by have := N3.out; omega
          clear hgo
          have hx0 : gi a K = 0 := by unfold gi; rw [getD_out (by have := HN.out; omega)]; rfl
          rw [hx0, Int.add_zero] at hv
          clear hx0 bx
          have hy0 : gi b K = 0 := by unfold gi; rw [getD_out (by have := HM.out; omega)]; rfl
          rw [hy0, Int.add_zero] at hv
          clear hy0 by0
          subst hv
          have xp : 0 < v := hxp
          have nA : ¬ (K : Int) < (n : Int) := by omega
          have nB : ¬ (K : Int) < (m : Int) := by omega
          have eW : IntKind.u16.wrap (v % 65536) = v % 65536 := by rw [IntKind.wrap_u16]; omega
          go_wp2_with (at_builtin; refine wpList_append_own _ rfl _ _ 22 rfl w.heap.size 31 i0 (.int .u16 0) 1 2 Tryd.underlying22 hi iz0 iz1 iz2 rfl (by decide) _ _ _ rfl (hown.out.alloc _) ⟨wo.heap.size, 0, none⟩ 1 1 [.int .u16 (v % 65536)] rfl rfl (cell_one_new _ _ _) one_u16 (by unfold maxLen; omega) (by omega) (by first | assumption | (simp; omega)) ?_; intro v5 w5 hown5 hgrow5 _)
          have hw5 : Below w.heap.size w w5 := Below.grown (hbw.alloc (by first | assumption | omega) _) hgrow5 (by first | assumption | (simp; omega)) (fun k hk => own_lt hown.out k hk)
          clear hgrow5
          have O5 := Lib.hid (own_app (d := adD a b K) hD.out hown5)
          clear hown5
          go_wp2_with fail
          go_roundw
          case rel => exact ⟨K + 1, v / 65536, l ++ [adD a b K], by omega, by go_num, rfl, O5.out, hl2.out, HL2, HC, HC2.out.1, HC2.out.2, HE2, hw5⟩
          case measure => first | (simp [intOf]; done) | (simp [intOf]; omega)
    · have hx0 : x = 0 := by have := HE.out; omega
      subst hx0
      have hRl : l = R := by
        rw [HL.out, ← HR.out]
        unfold addL
        rcases HE.out with h | ⟨_, h⟩
        · have hKN : K = N := by omega
          subst hKN
          rw [if_pos (by have := hx.out; omega), List.append_nil]
        · have h3 : ¬ K ≤ N := by
            intro h4
            have h5 : K = N := by omega
            subst h5
            have := hx.out
            omega
          have hKN : K = N + 1 := by omega
          subst hKN
          rw [if_neg h, range_succ_map]
          congr 2
          unfold adD
          rw [getD_out (l := a) (by have := HN.out; omega), getD_out (l := b) (by have := HM.out; omega)]
          have := HCL.out N
          omega
      subst hRl
      have nA : ¬ (K : Int) < (n : Int) := by omega
      have nB : ¬ (K : Int) < (m : Int) := by omega
      clear hgo HR HL hx HE
      go_wp2_with fail
      go_ret
      exact ret_own hown.out hbw
end Go.Proofs.YtogmmhacjndebaaDoor
