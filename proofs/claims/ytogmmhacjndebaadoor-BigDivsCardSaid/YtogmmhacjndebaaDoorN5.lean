/- The contract of big.Mul. Condition: two numbers of at most 256 digits. -/
import Derived.Test.YtogmmhacjndebaaDoorN4
import Derived.Outline
namespace Go.Proofs.YtogmmhacjndebaaDoor
open Go.RowKit
set_option linter.unusedSimpArgs false
set_option linter.unusedVariables false
attribute [local irreducible] Fl.K
set_option maxHeartbeats 3200000 in
set_option maxRecDepth 100000 in
theorem bigMul_yes (ad bd : Option Addr) (n c m d : Nat) (a b : List Nat) (hn : a.length = n) (hm : b.length = m) (ha : isB a = true) (hb : isB b = true) (da : DigL a) (db : DigL b) (hn0 : 1 ≤ n) (hm0 : 1 ≤ m) (w : World) (hS : Sl .u16 w ad n (gi a)) (hT : Sl .u16 w bd m (gi b)) :
    Calls Tryd.prog 11 #[.slice ad n c, .slice bd m d] w (RetU (dg (valL a * valL b)) w) := by
  obtain ⟨i0, hi, iz0, iz1, iz2⟩ := info_parts info_u16
  have hn256 : n ≤ 256 := by have := (isB_iff.1 ha).1; omega
  have hm256 : m ≤ 256 := by have := (isB_iff.1 hb).1; omega
  have I1 := Lib.hid (fun w h => ha ▸ bigIs_any ad n c a hn (by omega) w h)
  have I2 := Lib.hid (fun w h => hb ▸ bigIs_any bd m d b hm (by omega) w h)
  have N1 := Lib.hid (fun w h => numbers_any ad n c a hn (by omega) da w h)
  have N2 := Lib.hid (fun w h => numbers_any bd m d b hm (by omega) db w h)
  have ga := fun i => gi_bd da i
  have gb := fun i => gi_bd db i
  have FO := Lib.hid (fun x y cx cy w h g => fold_ret x y n cx m cy (gi a) (gi b) w h g hn256 hm256 hn0 hm0 (fun i _ => ga i) (fun i _ => gb i))
  obtain ⟨V, hV⟩ : ∃ V, valL a * valL b = V := ⟨_, rfl⟩
  obtain ⟨h, hh⟩ : ∃ h, wI (fz (gi a) n) (fz (gi b) m) m n = h := ⟨_, rfl⟩
  have PR : PV h (n + m - 1) = (V : Int) := by
    have := PV_prod a b (by omega) (by omega)
    rw [hn, hm, hh, hV] at this
    exact this
  have hbd := Lib.hid (fun t => wI_bound (fz (gi a) n) (fz (gi b) m) (fz_bound (fun i _ => ga i)) (fz_bound (fun i _ => gb i)) m hm256 t n)
  rw [hh] at FO hbd
  have hbd := Lib.hid (show ∀ t, 0 ≤ h t ∧ h t ≤ 281466386841600 from fun t => by have := hbd.out t; omega)
  rw [hV]
  replace PR := Lib.hid PR
  have HS := Lib.hid hS
  have HT := Lib.hid hT
  obtain ⟨L, hL⟩ : ∃ L, n + m - 1 = L := ⟨_, rfl⟩
  have hL0 : 1 ≤ L ∧ L ≤ 511 := by omega
  obtain ⟨L0, L1⟩ := hL0
  rw [hL] at PR
  have FO := Lib.hid (show ∀ x y cx cy w, Sl .i64 w x n (gi a) → Sl .i64 w y m (gi b) → Calls Tryd.prog 24 #[.slice x n cx, .slice y m cy] w (RetJ h L w) from by rw [← hL]; exact FO.out)
  clear ga gb hS hT hn hm ha hb da db hh hV hL
  go_enter Tryd.func11, Tryd.ntmps11
  go_wp2_with fail
  with_reducible refine (I1.out _ HS.out).mono ?_
  rintro e w' ⟨rfl, rfl⟩
  go_wp2_with fail
  with_reducible refine (I2.out _ HT.out).mono ?_
  rintro e w' ⟨rfl, rfl⟩
  go_wp2_with fail
  with_reducible refine (N1.out _ HS.out).mono ?_
  rintro e w1 ⟨b1, c1, rfl, s1, hw1⟩
  have t1 := HT.out.beyond hw1
  replace s1 := Lib.hid s1
  go_wp2_with fail
  with_reducible refine (N2.out _ t1).mono ?_
  rintro e w2 ⟨b2, c2, rfl, s2, hb2⟩
  have s12 := s1.out.beyond hb2
  have hw2 : Below w.heap.size w w2 := hw1.trans (hb2.mono hw1.size)
  clear t1 s1 hb2 hw1
  go_wp2_with fail
  with_reducible refine (FO.out _ _ _ _ _ s12 s2).mono ?_
  rintro e w3 ⟨g, c3, rfl, hc3, r3, hb3⟩
  have hw3 : Below w.heap.size w w3 := hw2.trans (hb3.mono hw2.size)
  clear s12 s2 hb3 hw2
  replace r3 := Lib.hid r3
  go_wp2_with fail
  go_loopw [7, 8, 29] (fun p q k wr => ∃ (K : Nat) (l : List Nat) (x : Int), k = .int .i64 K ∧ q = .int .i64 x ∧ K ≤ L ∧ OwnU wr w3.heap.size p l ∧ Hid (Car h K l x) ∧ 0 ≤ x ∧ x ≤ 8589934592 ∧ l.length ≤ K ∧ Below w3.heap.size w3 wr) (fun _ _ k _ => L - (intOf k).toNat)
  case atStart => exact ⟨0, [], 0, rfl, rfl, by omega, OwnU.nil _ _, Lib.hid (Car.start h), by decide, by decide, by decide, Below.refl _ _⟩
  case round =>
    obtain ⟨K, l, x, rfl, rfl, hK, hown, HC, x0, x1, hl, hbw⟩ := hrel
    obtain ⟨wo, rfl⟩ : ∃ wo : World, wo = wr := ⟨_, rfl⟩
    have hzo := hbw.size
    replace hown := Lib.hid hown
    by_cases hK4 : K < L
    · have rr := r3.out.beyond hbw
      have ck := rr.at K hK4
      unfold oi at ck
      have HC2 := Lib.hid (HC.out.step (hbd.out K).1)
      obtain ⟨y0, y1⟩ := hbd.out K
      generalize h K = y at *
      obtain ⟨s, hs⟩ : ∃ s, x + y = s := ⟨_, rfl⟩
      rw [hs] at HC2
      have s0 : 0 ≤ s := by omega
      have s1 : s ≤ 290056321433600 := by omega
      clear rr
      have eW : IntKind.u16.wrap s = s % 65536 := IntKind.wrap_u16 s
      go_wp2_with (at_builtin; refine wpList_append_own _ rfl _ _ 23 rfl (w3.heap.size) 31 i0 (.int .u16 0) 1 2 Tryd.underlying23 hi iz0 iz1 iz2 rfl (by decide) _ _ _ rfl (hown.out.alloc _) ⟨wo.heap.size, 0, none⟩ 1 1 [.int .u16 (s % 65536)] rfl rfl (cell_one_new _ _ _) one_u16 (by unfold maxLen; omega) (by omega) (by first | assumption | (simp; omega)) ?_; intro v5 w5 hown5 hgrow5 _)
      have hw5 : Below (w3.heap.size) _ w5 := Below.grown (hbw.alloc (by first | assumption | omega) _) hgrow5 (by first | assumption | (simp; omega)) (fun k hk => own_lt hown.out k hk)
      clear hgrow5
      have own5 := own_app (d := (s % 65536).toNat) (by omega) hown5
      have O5 := Lib.hid own5
      have HS5 : Hid (s / 65536 ≤ 8589934592) := Lib.hid (by omega)
      have HS6 : Hid (0 ≤ s / 65536) := Lib.hid (by omega)
      have hle5 : (l ++ [(s % 65536).toNat]).length ≤ K + 1 := by rw [List.length_append, List.length_singleton]; omega
      clear hown5 own5 hs
      go_wp2_with fail
      go_roundw
      case rel => exact ⟨K + 1, _, _, by go_num, rfl, by omega, O5.out, HC2, HS6.out, HS5.out, hle5, hw5⟩
      case measure => simp [intOf]; omega
    · have hKL : K = L := by omega
      subst hKL
      have HD := Lib.hid (HC.out.end PR.out)
      clear HC
      go_wp2_with fail
      go_loopw [7, 8] (fun p q wr => ∃ (l : List Nat) (x : Int), q = .int .i64 x ∧ OwnU wr w3.heap.size p l ∧ Hid (Cad V l x) ∧ 0 ≤ x ∧ ((x ≤ 8589934592 ∧ l.length ≤ K) ∨ (x ≤ 131072 ∧ l.length ≤ K + 1) ∨ (x ≤ 2 ∧ l.length ≤ K + 2) ∨ (x ≤ 0 ∧ l.length ≤ K + 3)) ∧ Below w3.heap.size w3 wr) (fun _ q _ => (intOf q).toNat)
      case atStart => exact ⟨l, x, rfl, hown.out, HD, x0, Or.inl ⟨x1, hl⟩, hbw⟩
      case round =>
        clear hown HD hl hbw x0 x1 hzo
        obtain ⟨l, x, rfl, hown, HD, x0, hx, hbw⟩ := hrel
        obtain ⟨wo, rfl⟩ : ∃ wo : World, wo = wr := ⟨_, rfl⟩
        have hzo := hbw.size
        have hl5 : l.length ≤ K + 3 := by omega
        replace hown := Lib.hid hown
        by_cases hx0 : 0 < x
        · have HD2 := Lib.hid (HD.out.step)
          have HX : Hid ((x / 65536 ≤ 8589934592 ∧ (l ++ [(x % 65536).toNat]).length ≤ K) ∨ (x / 65536 ≤ 131072 ∧ (l ++ [(x % 65536).toNat]).length ≤ K + 1) ∨ (x / 65536 ≤ 2 ∧ (l ++ [(x % 65536).toNat]).length ≤ K + 2) ∨ (x / 65536 ≤ 0 ∧ (l ++ [(x % 65536).toNat]).length ≤ K + 3)) := Lib.hid (by
            rw [List.length_append, List.length_singleton]; omega)
          have HX0 : Hid (0 ≤ x / 65536) := Lib.hid (by omega)
          have eW : IntKind.u16.wrap x = x % 65536 := IntKind.wrap_u16 x
          clear hx
          go_wp2_with (at_builtin; refine wpList_append_own _ rfl _ _ 23 rfl (w3.heap.size) 31 i0 (.int .u16 0) 1 2 Tryd.underlying23 hi iz0 iz1 iz2 rfl (by decide) _ _ _ rfl (hown.out.alloc _) ⟨wo.heap.size, 0, none⟩ 1 1 [.int .u16 (x % 65536)] rfl rfl (cell_one_new _ _ _) one_u16 (by unfold maxLen; omega) (by omega) (by first | assumption | (simp; omega)) ?_; intro v5 w5 hown5 hgrow5 _)
          have hw5 : Below (w3.heap.size) _ w5 := Below.grown (hbw.alloc (by first | assumption | omega) _) hgrow5 (by first | assumption | (simp; omega)) (fun k hk => own_lt hown.out k hk)
          clear hgrow5
          have O5 := Lib.hid (own_app (d := (x % 65536).toNat) (by omega) hown5)
          clear hown5
          go_wp2_with fail
          go_roundw
          case rel => exact ⟨_, _, rfl, O5.out, HD2, HX0.out, HX.out, hw5⟩
          case measure => simp [intOf]; omega
        · obtain rfl : x = 0 := by omega
          obtain ⟨dl, ev⟩ := HD.out.done
          have TR := Lib.hid (bigTrim_own _ _ _ _ hown.out dl (by omega))
          rw [ev] at TR
          have hw : Below w.heap.size w wo := hw3.trans (hbw.mono hw3.size)
          clear HD hx dl ev hown
          go_wp2_with fail
          with_reducible refine (TR.out).mono ?_
          rintro e w' ⟨rfl, ad', c', rfl, hc', hS'⟩
          have HS' := Lib.hid hS'
          clear hS'
          go_wp2_with fail
          go_ret
          exact ⟨_, _, rfl, hc', HS'.out, hw⟩
end Go.Proofs.YtogmmhacjndebaaDoor
