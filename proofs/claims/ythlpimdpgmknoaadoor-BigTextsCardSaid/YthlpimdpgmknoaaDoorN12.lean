/- Rows of digits of the call's own, written in place; the contracts of slices.Clone and big.Add. Conditions: as each says. -/
import Derived.Test.YthlpimdpgmknoaaDoorN10
import Derived.Test.YthlpimdpgmknoaaDoorN11
import Derived.Laws.OwnMore
import Derived.Outline
namespace Go.Proofs.YthlpimdpgmknoaaDoor
open Go.RowKit
set_option linter.unusedSimpArgs false
set_option linter.unusedVariables false
attribute [local irreducible] Fl.K
/-- Block g holds the digits l, of the call's own, in a slice of n of them. -/
def OwnA (w : World) (base g cap n : Nat) (l : List Nat) : Prop := l.length = n ∧ w.ownsRow base 45 1 (.slice (some ⟨g, 0, none⟩) n cap) n (l.map fun d : Nat => Value.int .u16 (d : Int))
theorem ownA_of {w : World} {base : Nat} {v : Value} {l : List Nat} (h : OwnU w base v l) (h0 : l.length ≠ 0) : ∃ g cap, v = .slice (some ⟨g, 0, none⟩) l.length cap ∧ base ≤ g ∧ l.length ≤ cap ∧ OwnA w base g cap l.length l := by
  have h' := h
  rcases h.2 with ⟨rfl, h1⟩ | ⟨g, cap, cur, rfl, hb, hgg, hnc, _, _, htake⟩
  · exact absurd (by simpa using h1) (fun e : l = [] => h0 (by rw [e]; rfl))
  · exact ⟨g, cap, rfl, hb, hnc, rfl, h'⟩
theorem OwnA.toU {w : World} {base g cap n : Nat} {l : List Nat} (h : OwnA w base g cap n l) : OwnU w base (.slice (some ⟨g, 0, none⟩) n cap) l := by
  obtain ⟨rfl, h⟩ := h
  exact h
theorem OwnA.lt {w : World} {base g cap n : Nat} {l : List Nat} (h : OwnA w base g cap n l) : base ≤ g ∧ g < w.heap.size := World.ownsRow.lt h.2 g rfl
theorem OwnA.at {w : World} {base g cap n : Nat} {l : List Nat} (h : OwnA w base g cap n l) (i : Nat) (hi : i < n) : w.cell? ⟨g, i, none⟩ = some (.int .u16 (gi l i)) := by
  have e := World.ownsRow.cellAt h.2 i (by omega)
  have hl := h.1
  rw [e, List.getElem?_map, List.getElem?_eq_getElem (by omega)]
  show some _ = some _
  congr 2
  rw [List.getD_eq_getElem?_getD, List.getElem?_eq_getElem (by omega)]; rfl
theorem OwnA.free {w : World} {base g cap n : Nat} {l : List Nat} (h : OwnA w base g cap n l) (i : Nat) : w.frozen? ⟨g, i, none⟩ = false := World.ownsRow.frozenAt h.2 i
theorem OwnA.set {w : World} {base g cap n : Nat} {l : List Nat} (h : OwnA w base g cap n l) (K d : Nat) (v : Int) (hv : v = (d : Int)) : OwnA (w.setCell ⟨g, K, none⟩ (.int .u16 v)) base g cap n (l.set K d) := by
  refine ⟨by rw [List.length_set]; exact h.1, ?_⟩
  have s := (World.ownsRow.stored h.2 K (.int .u16 v)).1
  rw [List.map_set, ← hv]
  exact s
theorem OwnA.beyond {w w' : World} {base g cap n : Nat} {l : List Nat} (h : OwnA w base g cap n l) (hb : Below w.heap.size w w') : OwnA w' base g cap n l := ⟨h.1, owns_beyond h.2 hb⟩
theorem OwnA.congr {w : World} {base g cap n : Nat} {l m : List Nat} (h : OwnA w base g cap n l) (e : l = m) : OwnA w base g cap n m := e ▸ h
theorem ret_own {w w' : World} {base : Nat} {v : Value} {l : List Nat} (h : OwnU w' base v l) (hb : Below w.heap.size w w') : RetU l w (.returned v) w' := by
  obtain ⟨ad, c, rfl, hc, hs⟩ := own_sl h
  exact ⟨ad, c, rfl, hc, hs, hb⟩
set_option maxHeartbeats 1600000 in
set_option maxRecDepth 100000 in
theorem clone_any (ad : Option Addr) (n c : Nat) (l : List Nat) (hn : l.length = n) (hz : n ≤ 100000) (w : World) (hS : Sl .u16 w ad n (gi l)) :
    Calls Tryd.prog 46 #[.slice ad n c] w (RetO l w) := by
  obtain ⟨i0, hi, iz0, iz1, iz2⟩ := info_parts info_u16
  have q := fun w => Lib.run_eql_slice_nil (P := Tryd.prog) w 23 45 ad n c 0 0 Tryd.underlying23
  rcases ad with _ | a
  · have hl : l = [] := by
      rcases Nat.eq_zero_or_pos n with h | h
      · exact List.eq_nil_of_length_eq_zero (by omega)
      · obtain ⟨a, ha, _⟩ := hS 0 h
        cases ha
    subst hl
    clear hS hn
    go_enter Tryd.func46, Tryd.ntmps46
    go_wp2_with fail
    go_ret
    exact ⟨_, rfl, OwnU.nil _ _, Below.refl _ _⟩
  · have HC : Hid (∀ i, i < n → a.block < w.heap.size ∧ w.cell? (a.add i) = some (.int .u16 (gi l i))) := Lib.hid (fun i hi => by
      obtain ⟨a', ha, hl, hc⟩ := hS i hi
      cases ha
      exact ⟨hl, hc⟩)
    have HN := Lib.hid hn
    clear hS hn
    go_enter Tryd.func46, Tryd.ntmps46
    go_wp2_with (at_builtin; refine wpList_append_own _ rfl _ _ 23 rfl w.heap.size 45 i0 (.int .u16 0) 1 2 Tryd.underlying23 hi iz0 iz1 iz2 rfl (by decide) _ 0 [] rfl (World.ownsRow_made w #[] 0 (Nat.le_refl _) (Nat.zero_le _) rfl) a n c (l.map fun d : Nat => Value.int .u16 (d : Int)) rfl (by rw [List.length_map, HN.out, Nat.mul_one]) ?c1 ?c2 (by unfold maxLen; omega) (by omega) (by simp) ?_)
    case c1 =>
      intro j u hj
      rw [List.getElem?_map] at hj
      obtain ⟨d, hd, rfl⟩ := Option.map_eq_some_iff.1 hj
      obtain ⟨hlt, he⟩ := List.getElem?_eq_some_iff.1 hd
      obtain ⟨h1, h2⟩ := HC.out j (by have := HN.out; omega)
      rw [World.cell?_alloc_old _ _ _ (by rw [show (a.add j).block = a.block by unfold Addr.add; split <;> rfl]; exact Nat.ne_of_lt h1), h2]
      congr 2
      unfold gi
      rw [List.getD_eq_getElem?_getD, hd]; rfl
    case c2 =>
      intro u hu
      obtain ⟨d, _, rfl⟩ := List.mem_map.1 hu
      rfl
    intro v5 w5 hown5 hgrow5 _
    have hw5 : Below w.heap.size w w5 := Below.grown ((Below.refl _ _).alloc (Nat.le_refl _) _) hgrow5 (by simp) (fun k hk => by simp [Value.ownBlock] at hk; omega)
    have O5 : OwnU w5 w.heap.size v5 l := by
      try rw [Nat.zero_add] at hown5
      try rw [List.nil_append] at hown5
      unfold OwnU
      rw [HN.out]
      exact hown5
    have HO := Lib.hid O5
    clear hown5 hgrow5 O5
    go_wp2_with fail
    go_ret
    exact ⟨v5, rfl, HO.out, hw5⟩
set_option maxHeartbeats 1600000 in
set_option maxRecDepth 100000 in
theorem bigAdd_bad (ad bd : Option Addr) (n c m d : Nat) (a b : List Nat) (hn : a.length = n) (hm : b.length = m) (hz : n ≤ 100000) (hz2 : m ≤ 100000) (hno : isB a = false ∨ isB b = false) (w : World) (hS : Sl .u16 w ad n (gi a)) (hT : Sl .u16 w bd m (gi b)) :
    Calls Tryd.prog 22 #[.slice ad n c, .slice bd m d] w fun e w' => e = .returned (.slice none 0 0) ∧ w = w' := by
  have I1 := bigIs_any ad n c a hn hz w hS
  have I2 := bigIs_any bd m d b hm hz2 w hT
  clear hS hT hn hm
  generalize isB a = x at *
  generalize isB b = y at *
  rcases x with _ | _
  · replace I1 := Lib.hid I1
    clear hno I2
    go_enter Tryd.func22, Tryd.ntmps22
    go_wp2_with fail
    with_reducible refine (I1.out).mono ?_
    rintro e w' ⟨rfl, rfl⟩
    go_wp2_with fail
    go_ret
    exact ⟨rfl, rfl⟩
  · obtain rfl : y = false := by rcases hno with h | h; · cases h
                                 exact h
    replace I1 := Lib.hid I1
    replace I2 := Lib.hid I2
    clear hno
    go_enter Tryd.func22, Tryd.ntmps22
    go_wp2_with fail
    with_reducible refine (I1.out).mono ?_
    rintro e w' ⟨rfl, rfl⟩
    go_wp2_with fail
    with_reducible refine (I2.out).mono ?_
    rintro e w' ⟨rfl, rfl⟩
    go_wp2_with fail
    go_ret
    exact ⟨rfl, rfl⟩
set_option maxHeartbeats 3200000 in
set_option maxRecDepth 100000 in
theorem bigAdd_yes (ad bd : Option Addr) (n c m d : Nat) (a b : List Nat) (hn : a.length = n) (hm : b.length = m) (hz : n ≤ 1000) (hz2 : m ≤ 1000) (ha : isB a = true) (hb : isB b = true) (da : DigL a) (db : DigL b) (w : World) (hS : Sl .u16 w ad n (gi a)) (hT : Sl .u16 w bd m (gi b)) :
    Calls Tryd.prog 22 #[.slice ad n c, .slice bd m d] w (RetU (dg (valL a + valL b)) w) := by
  obtain ⟨i0, hi, iz0, iz1, iz2⟩ := info_parts info_u16
  have I1 := Lib.hid (fun w h => ha ▸ bigIs_any ad n c a hn (by omega) w h)
  have I2 := Lib.hid (fun w h => hb ▸ bigIs_any bd m d b hm (by omega) w h)
  have HS := Lib.hid hS
  have HT := Lib.hid hT
  obtain ⟨R, hR⟩ : ∃ R, dg (valL a + valL b) = R := ⟨_, rfl⟩
  rw [hR]
  by_cases hlt : n < m
  · have CL := Lib.hid (clone_any bd m d b hm (by omega) w hT)
    have HR : Hid (addL m b a = R) := Lib.hid (by
      rw [← hR, Nat.add_comm]
      exact addL_can ⟨db, (isB_iff.1 hb).2⟩ ⟨da, (isB_iff.1 ha).2⟩ (by omega))
    have HNX := Lib.hid hm
    have HNY := Lib.hid hn
    have HDX := Lib.hid db
    have HDY := Lib.hid da
    have HSY := HS
    clear hS hT hn hm ha hb da db hR
    go_enter Tryd.func22, Tryd.ntmps22
    go_wp2_with fail
    with_reducible refine (I1.out _ HS.out).mono ?_
    rintro e w' ⟨rfl, rfl⟩
    go_wp2_with fail
    with_reducible refine (I2.out _ HT.out).mono ?_
    rintro e w' ⟨rfl, rfl⟩
    go_wp2_with fail
    with_reducible refine (CL.out).mono ?_
    rintro e w1 ⟨v1, rfl, o1, hw1⟩
    have hz1 := hw1.size
    by_cases hN0 : m = 0
    · have hR0 : R = [] := by
        have h1 := HR.out
        rw [hN0] at h1
        rw [← h1]; rfl
      have ex : b.length = 0 := by have := HNX.out; omega
      obtain ⟨ad1, c1, rfl, hc1, s1⟩ := own_sl o1
      rw [ex] at s1 hc1 ⊢
      subst hR0
      clear o1 ex
      go_wp2_with fail
      go_loop [6, 27] (fun q k => q = .int .i64 0 ∧ k = .int .i64 0) (fun _ _ => 0)
      case atStart => exact ⟨rfl, rfl⟩
      case round =>
        obtain ⟨rfl, rfl⟩ := hrel
        go_wp2_with fail
        go_ret
        exact ⟨ad1, c1, rfl, hc1, Sl.none _ _ _ _, hw1⟩
    · obtain ⟨g, cap, rfl, hg, hcap, oA⟩ := ownA_of o1 (by have := HNX.out; omega)
      rw [HNX.out] at oA hcap ⊢
      clear o1
      replace oA := Lib.hid oA
      have HI := Lib.hid (fun K => gi_bd HDX.out K)
      have HJ := Lib.hid (fun K => gi_bd HDY.out K)
      have HCL := Lib.hid (fun K => adC_le HDX.out HDY.out K)
      go_wp2_with fail
      go_loopw [6, 27] (fun q k wr => ∃ (K : Nat) (x : Int), K ≤ m ∧ k = .int .i64 K ∧ q = .int .i64 x ∧ Hid (x = ((adC b a K : Nat) : Int)) ∧ 0 ≤ x ∧ x ≤ 1 ∧ OwnA wr w.heap.size g cap m (mixL m (adD b a) b K) ∧ Below w.heap.size w wr) (fun _ k _ => m - (intOf k).toNat)
      case atStart => exact ⟨0, 0, Nat.zero_le _, rfl, rfl, Lib.hid rfl, by decide, by decide, oA.out.congr (by have := HNX.out; subst this; exact (mixL_zero _).symm), hw1⟩
      case round =>
        obtain ⟨K, x, hK, rfl, rfl, hx, x0, x1, oK, hbw⟩ := hrel
        clear oA hw1 hz1
        have hzw := hbw.size
        by_cases hK4 : K < m
        · have ck := oK.at K hK4
          rw [show gi (mixL m (adD b a) b K) K = gi b K by unfold gi; rw [mixL_getD hK4, if_neg (Nat.lt_irrefl _)]] at ck
          have fr := oK.free K
          have rl := oK.lt.2
          have bx := HI.out K
          have by0 := HJ.out K
          have hmax := HCL.out (K + 1)
          obtain ⟨v, hv⟩ : ∃ v : Int, v = x + gi b K + gi a K := ⟨_, rfl⟩
          have hD : v % 65536 = ((adD b a K : Nat) : Int) := by rw [hv, hx.out]; unfold adD gi; omega
          have hC : v / 65536 = ((adC b a (K + 1) : Nat) : Int) := by rw [hv, hx.out, adC]; unfold gi; omega
          have hS := Lib.hid (fun (W : World) (o : OwnA W w.heap.size g cap m (mixL m (adD b a) b K)) => (o.set K _ _ hD).congr (mixL_step hK4))
          have HC := Lib.hid hC
          have HC2 : Hid (0 ≤ v / 65536 ∧ v / 65536 ≤ 1) := Lib.hid (by rw [hC]; omega)
          replace oK := Lib.hid oK
          have eW : IntKind.u16.wrap v = v % 65536 := IntKind.wrap_u16 v
          have eW2 : ∀ z : Int, IntKind.u16.wrap z = z % 65536 := IntKind.wrap_u16
          by_cases hKM : K < n
          · obtain ⟨ay, rfl, hay, hcy⟩ := HSY.out.beyond hbw K hKM
            have hv2 : x + gi b K + gi a K = v := hv.symm
            generalize gi b K = u at *
            generalize gi a K = t at *
            obtain ⟨u0, u1⟩ := bx
            obtain ⟨t0, t1⟩ := by0
            have v0 : 0 ≤ v := by omega
            have v1 : v ≤ 131071 := by omega
            clear hD hC hv eW2
            go_wp2_with fail
            go_roundw
            case rel => exact ⟨K + 1, v / 65536, by omega, by go_num, by first | rfl | (simp; done), HC, HC2.out.1, HC2.out.2, hS.out _ oK.out, by repeat' (first | (with_reducible assumption) | (with_reducible exact Below.refl _ _) | (with_reducible refine below_drewN ?_ _) | (with_reducible refine Below.drew ?_) | (with_reducible refine Below.setCell ?_ ?_ _) | (with_reducible refine Below.alloc ?_ ?_ _) | omega | (simp; done) | (simp; omega))⟩
            case measure => first | (simp [intOf]; done) | (simp [intOf]; omega)
          · have hy0 : gi a K = 0 := by unfold gi; rw [getD_out (by have := HNY.out; omega)]; rfl
            rw [hy0, Int.add_zero] at hv
            have hv2 : x + gi b K = v := hv.symm
            generalize gi b K = u at *
            obtain ⟨u0, u1⟩ := bx
            have v0 : 0 ≤ v := by omega
            have v1 : v ≤ 65536 := by omega
            clear hD hC hv eW2 hy0 by0
            go_wp2_with fail
            go_roundw
            case rel => exact ⟨K + 1, v / 65536, by omega, by go_num, by first | rfl | (simp; done), HC, HC2.out.1, HC2.out.2, hS.out _ oK.out, by repeat' (first | (with_reducible assumption) | (with_reducible exact Below.refl _ _) | (with_reducible refine below_drewN ?_ _) | (with_reducible refine Below.drew ?_) | (with_reducible refine Below.setCell ?_ ?_ _) | (with_reducible refine Below.alloc ?_ ?_ _) | omega | (simp; done) | (simp; omega))⟩
            case measure => first | (simp [intOf]; done) | (simp [intOf]; omega)
        · obtain rfl : K = m := by omega
          have oE := oK.congr (mixL_end K (adD b a) b)
          have hRR := HR.out
          by_cases hx0 : x = 0
          · subst hx0
            have hc0 : adC b a K = 0 := by have := hx.out; omega
            unfold addL at hRR
            rw [if_pos hc0, List.append_nil] at hRR
            have oU := oE.toU
            rw [hRR] at oU
            have HO := Lib.hid oU
            clear hRR oE oK oU hc0
            go_wp2_with fail
            go_ret
            exact ret_own HO.out hbw
          · obtain rfl : x = 1 := by omega
            have hc0 : adC b a K = 1 := by have := hx.out; omega
            unfold addL at hRR
            rw [if_neg (by omega), hc0] at hRR
            have oU := Lib.hid oE.toU
            have hl : ((List.range K).map (adD b a)).length = K := by simp
            have HRR := Lib.hid hRR
            have eW : IntKind.u16.wrap 1 = 1 := by decide
            have HL := Lib.hid hl
            clear hRR oE oK hc0 hl
            go_wp2_with (at_builtin; refine wpList_append_own _ rfl _ _ 23 rfl w.heap.size 45 i0 (.int .u16 0) 1 2 Tryd.underlying23 hi iz0 iz1 iz2 rfl (by decide) _ K _ rfl ((by have h := oU.out; unfold OwnU at h; rw [HL.out] at h; exact h : World.ownsRow _ _ _ _ _ K _).alloc _) ⟨wr.heap.size, 0, none⟩ 1 1 [.int .u16 1] rfl rfl (cell_one_new _ _ _) one_u16 (by unfold maxLen; omega) (by omega) (by first | assumption | (simp; omega)) ?_; intro v5 w5 hown5 hgrow5 _)
            have hw5 : Below w.heap.size w w5 := Below.grown (hbw.alloc (by first | assumption | omega) _) hgrow5 (by first | assumption | (simp; omega)) (fun k hk => own_lt oU.out k hk)
            clear hgrow5
            have O5 := Lib.hid (own_app (l := (List.range K).map (adD b a)) (d := 1) rfl (by rw [HL.out]; exact hown5))
            clear hown5
            go_wp2_with fail
            go_ret
            have h9 := O5.out
            rw [HRR.out] at h9
            exact ret_own h9 hw5
  · have CL := Lib.hid (clone_any ad n c a hn (by omega) w hS)
    have HR : Hid (addL n a b = R) := Lib.hid (by
      rw [← hR]
      exact addL_can ⟨da, (isB_iff.1 ha).2⟩ ⟨db, (isB_iff.1 hb).2⟩ (by omega))
    have HNX := Lib.hid hn
    have HNY := Lib.hid hm
    have HDX := Lib.hid da
    have HDY := Lib.hid db
    have HSY := HT
    clear hS hT hn hm ha hb da db hR
    go_enter Tryd.func22, Tryd.ntmps22
    go_wp2_with fail
    with_reducible refine (I1.out _ HS.out).mono ?_
    rintro e w' ⟨rfl, rfl⟩
    go_wp2_with fail
    with_reducible refine (I2.out _ HT.out).mono ?_
    rintro e w' ⟨rfl, rfl⟩
    go_wp2_with fail
    with_reducible refine (CL.out).mono ?_
    rintro e w1 ⟨v1, rfl, o1, hw1⟩
    have hz1 := hw1.size
    by_cases hN0 : n = 0
    · have hR0 : R = [] := by
        have h1 := HR.out
        rw [hN0] at h1
        rw [← h1]; rfl
      have ex : a.length = 0 := by have := HNX.out; omega
      obtain ⟨ad1, c1, rfl, hc1, s1⟩ := own_sl o1
      rw [ex] at s1 hc1 ⊢
      subst hR0
      clear o1 ex
      go_wp2_with fail
      go_loop [6, 27] (fun q k => q = .int .i64 0 ∧ k = .int .i64 0) (fun _ _ => 0)
      case atStart => exact ⟨rfl, rfl⟩
      case round =>
        obtain ⟨rfl, rfl⟩ := hrel
        go_wp2_with fail
        go_ret
        exact ⟨ad1, c1, rfl, hc1, Sl.none _ _ _ _, hw1⟩
    · obtain ⟨g, cap, rfl, hg, hcap, oA⟩ := ownA_of o1 (by have := HNX.out; omega)
      rw [HNX.out] at oA hcap ⊢
      clear o1
      replace oA := Lib.hid oA
      have HI := Lib.hid (fun K => gi_bd HDX.out K)
      have HJ := Lib.hid (fun K => gi_bd HDY.out K)
      have HCL := Lib.hid (fun K => adC_le HDX.out HDY.out K)
      go_wp2_with fail
      go_loopw [6, 27] (fun q k wr => ∃ (K : Nat) (x : Int), K ≤ n ∧ k = .int .i64 K ∧ q = .int .i64 x ∧ Hid (x = ((adC a b K : Nat) : Int)) ∧ 0 ≤ x ∧ x ≤ 1 ∧ OwnA wr w.heap.size g cap n (mixL n (adD a b) a K) ∧ Below w.heap.size w wr) (fun _ k _ => n - (intOf k).toNat)
      case atStart => exact ⟨0, 0, Nat.zero_le _, rfl, rfl, Lib.hid rfl, by decide, by decide, oA.out.congr (by have := HNX.out; subst this; exact (mixL_zero _).symm), hw1⟩
      case round =>
        obtain ⟨K, x, hK, rfl, rfl, hx, x0, x1, oK, hbw⟩ := hrel
        clear oA hw1 hz1
        have hzw := hbw.size
        by_cases hK4 : K < n
        · have ck := oK.at K hK4
          rw [show gi (mixL n (adD a b) a K) K = gi a K by unfold gi; rw [mixL_getD hK4, if_neg (Nat.lt_irrefl _)]] at ck
          have fr := oK.free K
          have rl := oK.lt.2
          have bx := HI.out K
          have by0 := HJ.out K
          have hmax := HCL.out (K + 1)
          obtain ⟨v, hv⟩ : ∃ v : Int, v = x + gi a K + gi b K := ⟨_, rfl⟩
          have hD : v % 65536 = ((adD a b K : Nat) : Int) := by rw [hv, hx.out]; unfold adD gi; omega
          have hC : v / 65536 = ((adC a b (K + 1) : Nat) : Int) := by rw [hv, hx.out, adC]; unfold gi; omega
          have hS := Lib.hid (fun (W : World) (o : OwnA W w.heap.size g cap n (mixL n (adD a b) a K)) => (o.set K _ _ hD).congr (mixL_step hK4))
          have HC := Lib.hid hC
          have HC2 : Hid (0 ≤ v / 65536 ∧ v / 65536 ≤ 1) := Lib.hid (by rw [hC]; omega)
          replace oK := Lib.hid oK
          have eW : IntKind.u16.wrap v = v % 65536 := IntKind.wrap_u16 v
          have eW2 : ∀ z : Int, IntKind.u16.wrap z = z % 65536 := IntKind.wrap_u16
          by_cases hKM : K < m
          · obtain ⟨ay, rfl, hay, hcy⟩ := HSY.out.beyond hbw K hKM
            have hv2 : x + gi a K + gi b K = v := hv.symm
            generalize gi a K = u at *
            generalize gi b K = t at *
            obtain ⟨u0, u1⟩ := bx
            obtain ⟨t0, t1⟩ := by0
            have v0 : 0 ≤ v := by omega
            have v1 : v ≤ 131071 := by omega
            clear hD hC hv eW2
            go_wp2_with fail
            go_roundw
            case rel => exact ⟨K + 1, v / 65536, by omega, by go_num, by first | rfl | (simp; done), HC, HC2.out.1, HC2.out.2, hS.out _ oK.out, by repeat' (first | (with_reducible assumption) | (with_reducible exact Below.refl _ _) | (with_reducible refine below_drewN ?_ _) | (with_reducible refine Below.drew ?_) | (with_reducible refine Below.setCell ?_ ?_ _) | (with_reducible refine Below.alloc ?_ ?_ _) | omega | (simp; done) | (simp; omega))⟩
            case measure => first | (simp [intOf]; done) | (simp [intOf]; omega)
          · have hy0 : gi b K = 0 := by unfold gi; rw [getD_out (by have := HNY.out; omega)]; rfl
            rw [hy0, Int.add_zero] at hv
            have hv2 : x + gi a K = v := hv.symm
            generalize gi a K = u at *
            obtain ⟨u0, u1⟩ := bx
            have v0 : 0 ≤ v := by omega
            have v1 : v ≤ 65536 := by omega
            clear hD hC hv eW2 hy0 by0
            go_wp2_with fail
            go_roundw
            case rel => exact ⟨K + 1, v / 65536, by omega, by go_num, by first | rfl | (simp; done), HC, HC2.out.1, HC2.out.2, hS.out _ oK.out, by repeat' (first | (with_reducible assumption) | (with_reducible exact Below.refl _ _) | (with_reducible refine below_drewN ?_ _) | (with_reducible refine Below.drew ?_) | (with_reducible refine Below.setCell ?_ ?_ _) | (with_reducible refine Below.alloc ?_ ?_ _) | omega | (simp; done) | (simp; omega))⟩
            case measure => first | (simp [intOf]; done) | (simp [intOf]; omega)
        · obtain rfl : K = n := by omega
          have oE := oK.congr (mixL_end K (adD a b) a)
          have hRR := HR.out
          by_cases hx0 : x = 0
          · subst hx0
            have hc0 : adC a b K = 0 := by have := hx.out; omega
            unfold addL at hRR
            rw [if_pos hc0, List.append_nil] at hRR
            have oU := oE.toU
            rw [hRR] at oU
            have HO := Lib.hid oU
            clear hRR oE oK oU hc0
            go_wp2_with fail
            go_ret
            exact ret_own HO.out hbw
          · obtain rfl : x = 1 := by omega
            have hc0 : adC a b K = 1 := by have := hx.out; omega
            unfold addL at hRR
            rw [if_neg (by omega), hc0] at hRR
            have oU := Lib.hid oE.toU
            have hl : ((List.range K).map (adD a b)).length = K := by simp
            have HRR := Lib.hid hRR
            have eW : IntKind.u16.wrap 1 = 1 := by decide
            have HL := Lib.hid hl
            clear hRR oE oK hc0 hl
            go_wp2_with (at_builtin; refine wpList_append_own _ rfl _ _ 23 rfl w.heap.size 45 i0 (.int .u16 0) 1 2 Tryd.underlying23 hi iz0 iz1 iz2 rfl (by decide) _ K _ rfl ((by have h := oU.out; unfold OwnU at h; rw [HL.out] at h; exact h : World.ownsRow _ _ _ _ _ K _).alloc _) ⟨wr.heap.size, 0, none⟩ 1 1 [.int .u16 1] rfl rfl (cell_one_new _ _ _) one_u16 (by unfold maxLen; omega) (by omega) (by first | assumption | (simp; omega)) ?_; intro v5 w5 hown5 hgrow5 _)
            have hw5 : Below w.heap.size w w5 := Below.grown (hbw.alloc (by first | assumption | omega) _) hgrow5 (by first | assumption | (simp; omega)) (fun k hk => own_lt oU.out k hk)
            clear hgrow5
            have O5 := Lib.hid (own_app (l := (List.range K).map (adD a b)) (d := 1) rfl (by rw [HL.out]; exact hown5))
            clear hown5
            go_wp2_with fail
            go_ret
            have h9 := O5.out
            rw [HRR.out] at h9
            exact ret_own h9 hw5
end Go.Proofs.YthlpimdpgmknoaaDoor
