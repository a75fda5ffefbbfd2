/- The contract of big.long: Knuth's division. Conditions: two rows of the caller's own, in blocks apart; the divisor's highest bit is 1. -/
import Derived.Test.YtogmmhacjndebaaDoorNS
import Derived.Test.YtogmmhacjndebaaDoorKn
import Derived.Test.YtogmmhacjndebaaDoorKe
import Derived.Test.YtogmmhacjndebaaDoorNT
import Derived.Deep.AppendLies
import Derived.Outline
namespace Go.Proofs.YtogmmhacjndebaaDoor
open Go.RowKit
set_option linter.unusedSimpArgs false
set_option linter.unusedVariables false
attribute [local irreducible] Fl.K
theorem or64 (x y : Int) (hx0 : 0 ≤ x) (hx : x % 65536 = 0) (hy0 : 0 ≤ y) (hy : y < 65536) (hx1 : x < 18446744073709551616) : bits .or .u64 x y = x + y := by
  obtain ⟨m, rfl⟩ := Int.eq_ofNat_of_zero_le hx0
  obtain ⟨n, rfl⟩ := Int.eq_ofNat_of_zero_le hy0
  rw [u64_or_nat m n (by omega) (by omega), nat_join 16 m n (by omega) (by omega), Int.natCast_add]
def LongP (base gu gv cu cv m n : Nat) (u v : List Nat) (w : World) (e : Ending) (w' : World) : Prop :=
  ∃ gq gx cx J1, e = .returned (.tuple #[.slice (some ⟨gq, 0, none⟩) J1 J1, .slice (some ⟨gx, 0, none⟩) n cx]) ∧ ∃ qL xL, qL.length = J1 ∧ xL.length = n ∧ DigL qL ∧ DigL xL ∧ valL qL = valL u / valL v ∧ valL xL = valL u % valL v ∧ OwnA w' base gq J1 J1 qL ∧ OwnA w' base gx cx n xL ∧ J1 ≤ m + 1 ∧ n ≤ cx ∧ Below base w w'
theorem LongP.drewN {base gu gv cu cv m n : Nat} {u v : List Nat} {w w' : World} {e : Ending} (h : LongP base gu gv cu cv m n u v w e w') (q : Nat) : LongP base gu gv cu cv m n u v w e (w'.drewN q) := by
  obtain ⟨gq, gx, cx, J1, rfl, qL, xL, h1, h2, h3, h4, h5, h6, h7, h8, h9, h10, h11⟩ := h
  exact ⟨gq, gx, cx, J1, rfl, qL, xL, h1, h2, h3, h4, h5, h6, h7.beyond (below_drewN (Below.refl _ _) q), h8.beyond (below_drewN (Below.refl _ _) q), h9, h10, below_drewN h11 q⟩
theorem owns_mono {w : World} {base base' size n : Nat} {e : TypeId} {v : Value} {xs : List Value} (h : w.ownsRow base e size v n xs) (hb : base' ≤ base) : w.ownsRow base' e size v n xs := ⟨h.1, h.2.imp id (fun ⟨g, cap, cur, h1, h2, h3⟩ => ⟨g, cap, cur, h1, Nat.le_trans hb h2, h3⟩)⟩
theorem OwnA.other {w : World} {base g g' cap n K : Nat} {l : List Nat} {x : Value} (h : OwnA w base g cap n l) (hne : g ≠ g') : OwnA (w.setCell ⟨g', K, none⟩ x) base g cap n l := ⟨h.1, ownsRow_setCell_other h.2 (by simp [Value.ownBlock]; exact hne) x⟩
theorem OwnA.drewN {w : World} {base g cap n : Nat} {l : List Nat} (h : OwnA w base g cap n l) (q : Nat) : OwnA (w.drewN q) base g cap n l := h.beyond (below_drewN (Below.refl _ _) q)
set_option maxHeartbeats 12800000 in
set_option maxRecDepth 100000 in
theorem long_any (base gu cu m gv cv n k : Nat) (u v : List Nat) (w : World) (ou : OwnA w base gu cu m u) (ov : OwnA w base gv cv n v) (hne : gu ≠ gv) (hb : base ≤ w.heap.size) (du : DigL u) (dv : DigL v) (hn2 : n = k + 2) (hm : n ≤ m) (hz : m ≤ 1000) (hv1 : 32768 ≤ v.getD (k + 1) 0) :
    Calls Tryd.prog 19 #[.slice (some ⟨gu, 0, none⟩) m cu, .slice (some ⟨gv, 0, none⟩) n cv] w (LongP base gu gv cu cv m n u v w) := by
  obtain ⟨i0, hi, iz0, iz1, iz2⟩ := info_parts info_u16
  obtain ⟨V, hV⟩ : ∃ V, valL v = V := ⟨_, rfl⟩
  obtain ⟨J1, hJ1⟩ : ∃ J1, J1 + n = m + 1 := ⟨m + 1 - n, by omega⟩
  have hvl := ov.1
  have hul := ou.1
  have hVge : 65536 ^ (k + 1) ≤ V := by
    rw [← hV, val_split v (k + 1) (by omega), val_drop v (k + 1) (by omega)]
    have h1 := Nat.mul_le_mul_left (65536 ^ (k + 1)) (show 1 ≤ v.getD (k + 1) 0 + 65536 * valL (v.drop (k + 1 + 1)) by omega)
    omega
  have hst : valL ((u ++ [0]).drop J1) < V := by
    rw [List.drop_append_of_le_length (by omega), val_snoc, Nat.mul_zero, Nat.add_zero]
    refine Nat.lt_of_lt_of_le (val_lt (du.drop J1)) (Nat.le_trans ?_ hVge)
    exact Nat.pow_le_pow_right (by decide) (by rw [List.length_drop]; omega)
  have HV := Lib.hid hV
  have HST := Lib.hid hst
  have HDV := Lib.hid dv
  have HU := Lib.hid (show valL (u ++ [0]) = valL u by rw [val_snoc, Nat.mul_zero, Nat.add_zero])
  have HDU := Lib.hid (du.app (DigL.rep 1))
  have HVL := Lib.hid hvl
  have OU := Lib.hid ou
  have OV := Lib.hid ov
  have HK := Lib.hid hn2
  have hn1 : 2 ≤ n := by omega
  have hgu := ou.lt
  have hgv := ov.lt
  have HV1 := Lib.hid hv1
  have e1 : IntKind.i64.wrap ((m : Int) + 1 - (n : Int)) = (J1 : Int) := by rw [show (m : Int) + 1 - (n : Int) = J1 by omega]; exact IntWalk.i64_in _ (by omega)
  have e2 : (m : Int) + 1 - (n : Int) = (J1 : Int) := by omega
  have hJ0 : 1 ≤ J1 := by omega
  clear ou ov du dv hvl hul hV hst hVge hv1 hn2
  go_enter Tryd.func19, Tryd.ntmps19
  go_wp2_with (first | (at_builtin; refine wpList_append_lies _ rfl _ _ 23 rfl base 31 i0 (.int .u16 0) 1 2 Tryd.underlying23 hi iz0 iz1 iz2 rfl (by decide) _ m _ rfl (World.ownsRow.alloc OU.out.2 _) ⟨w.heap.size, 0, none⟩ 1 1 [.int .u16 0] rfl rfl (cell_one_new _ _ _) one_u16 (by decide) (by unfold maxLen; omega) (by omega) (by simp; omega) _ rfl ?_; intro gx cx w1 hown1 hgrow1 hat1 hlt1) | (at_make; refine wpList_make_full _ rfl _ _ 23 rfl w1.heap.size 31 i0 (.int .u16 0) 1 Tryd.underlying23 hi iz0 iz1 .i64 .i64 (J1 : Int) (J1 : Int) J1 rfl rfl (by omega) (by omega) (by rw [iz2]; omega) (by unfold maxLen; omega) (Nat.le_refl _) ?_; intro w2 hown2 hgrow2))
  replace hgrow1 : World.grownBy (w.alloc (.cells #[.int .u16 0] 31)) w1 (some gu) := hgrow1
  replace hat1 : some gu = some gx ∨ gx = (w.alloc (.cells #[.int .u16 0] 31)).heap.size := hat1
  have hgxv : gx ≠ gv := by
    rcases hat1 with h | h
    · simp at h; omega
    · simp at h; omega
  have hb1 : base ≤ w1.heap.size := by have := hgrow1.size; simp at this; omega
  have O1 : OwnA w1 base gx cx (m + 1) (u ++ [0]) := ⟨by rw [List.length_append, List.length_singleton, OU.out.1], by rw [List.map_append]; exact hown1⟩
  have V1 : OwnA w1 base gv cv n v := ⟨OV.out.1, World.ownsRow.kept (World.ownsRow.alloc OV.out.2 _) hgrow1 (Or.inr (fun e => hne (by simp [Value.ownBlock] at e; exact e.symm)))⟩
  have W1 : Below base w w1 := Below.grown ((Below.refl _ _).alloc hb _) hgrow1 (by simp; omega) (fun k hk => by simp at hk; omega)
  have O2 : OwnA w2 base gx cx (m + 1) (u ++ [0]) := ⟨O1.1, World.ownsRow.kept O1.2 hgrow2 (Or.inr (fun e => by cases e))⟩
  have V2 : OwnA w2 base gv cv n v := ⟨V1.1, World.ownsRow.kept V1.2 hgrow2 (Or.inr (fun e => by cases e))⟩
  have Q2 : OwnA w2 base w1.heap.size J1 J1 (List.replicate J1 0) := by
    refine ⟨by simp, ?_⟩
    have e : (madeCells #[Value.int .u16 0] J1).toList = (List.replicate J1 0).map fun d : Nat => Value.int .u16 (d : Int) := by
      rw [toList_madeCells_one, List.map_replicate]; rfl
    have h := owns_mono hown2 hb1
    rw [show (Value.int .u16 0).cells = #[Value.int .u16 0] from rfl, Nat.mul_one, e] at h
    exact h
  have W2 : Below base w w2 := Below.grown W1 hgrow2 hb1 (fun k hk => by cases hk)
  have hgq : w1.heap.size ≠ gx ∧ w1.heap.size ≠ gv := by have := O1.lt; have := V1.lt; omega
  obtain ⟨gq, hgq0⟩ : ∃ gq, w1.heap.size = gq := ⟨_, rfl⟩
  rw [hgq0] at Q2 hgq ⊢
  obtain ⟨hqx, hqv⟩ := hgq
  have hbx := O2.lt.1
  have hbq := Q2.lt.1
  have O2 := Lib.hid O2
  have V2 := Lib.hid V2
  have Q2 := Lib.hid Q2
  have W2 := Lib.hid W2
  clear hown1 hgrow1 hat1 hlt1 hown2 hgrow2 O1 V1 W1 hgq0 OU OV hgu hgv hb1
  go_wp2_with fail
  go_loopw [7] (fun i wr => ∃ (K : Nat) (uL qL : List Nat), i = .int .i64 ((K : Int) - 1) ∧ K ≤ J1 ∧ OwnA wr base gx cx (m + 1) uL ∧ OwnA wr base gq J1 J1 qL ∧ OwnA wr base gv cv n v ∧ Hid (KE uL qL V (valL u) K n) ∧ Below base w wr) (fun i _ => (intOf i + 1).toNat)
  case atStart => exact ⟨J1, u ++ [0], List.replicate J1 0, by first | rfl | (simp; done), Nat.le_refl _, O2.out, Q2.out, V2.out, Lib.hid ⟨HDU.out, DigL.rep _, by rw [val_rep, Nat.zero_mul, Nat.zero_add]; exact HU.out, fun t _ => by rw [List.getD_eq_getElem?_getD, List.getElem?_replicate]; split <;> rfl, HST.out, val_rest (by rw [O2.out.1]; omega)⟩, W2.out⟩
  case round =>
    clear O2 Q2 V2 W2 HST HU HDU
    obtain ⟨K', uL, qL, rfl, hK, oU, oQ, oV, KH, hbw⟩ := hrel
    have HDL := Lib.hid KH.out.du
    have HDQ := Lib.hid KH.out.dq
    have HS := Lib.hid KH.out.sum
    have HZ := Lib.hid KH.out.zero
    have HW := Lib.hid KH.out.small
    have HT := Lib.hid KH.out.top
    rcases (show K' = 0 ∨ ∃ j, K' = j + 1 by cases K' with | zero => exact Or.inl rfl | succ K => exact Or.inr ⟨K, rfl⟩) with rfl | ⟨j, rfl⟩
    · have hs := HS.out
      have hw := HW.out
      rw [List.drop_zero] at hw
      have hVp : 0 < V := by omega
      have hq : valL qL = valL u / V := by
        rw [← hs, Nat.mul_comm, Nat.mul_add_div hVp, Nat.div_eq_of_lt hw]; omega
      have hr : valL uL = valL u % V := by
        rw [← hs, Nat.mul_comm, Nat.mul_add_mod, Nat.mod_eq_of_lt hw]
      have hz0 := HT.out
      rw [Nat.zero_add] at hz0
      have hx : valL (uL.take n) = valL u % V := by
        have h1 := val_split uL n (by rw [oU.1]; omega)
        rw [hz0, Nat.mul_zero, Nat.add_zero] at h1
        rw [← h1, hr]
      have oX : OwnA wr base gx cx n (uL.take n) := by
        have h1 := own_take oU.toU oU.1 (k := n) (by omega)
        have hl : (uL.take n).length = n := by rw [List.length_take, oU.1]; omega
        refine ⟨hl, ?_⟩
        have h2 := h1
        unfold OwnU at h2
        rw [hl] at h2
        exact h2
      have hnc : n ≤ cx := by
        rcases oU.2.2 with ⟨h1, _⟩ | ⟨g', cap, cur, h1, _, _, h2, _⟩
        · cases h1
        · injection h1 with h3 h4 h5; omega
      have LP : LongP base gu gv cu cv m n u v w (.returned (.tuple #[.slice (some ⟨gq, 0, none⟩) J1 J1, .slice (some ⟨gx, 0, none⟩) n cx])) wr := ⟨gq, gx, cx, J1, rfl, qL, uL.take n, oQ.1, oX.1, HDQ.out, HDL.out.take n, by rw [HV.out]; exact hq, by rw [HV.out]; exact hx, oQ, oX, by omega, hnc, hbw⟩
      have LP := Lib.hid LP
      have n0 : (0 : Int) ≤ (n : Int) := by omega
      have nc : (n : Int) ≤ (cx : Int) := by omega
      clear hs hw hq hr hz0 hx oX oU oQ oV HS HW HT HZ hVp
      go_wp2_with fail
      go_quiet (fail)
      go_wp2_with fail
      go_ret2
      first | exact LP.out | exact LP.out.drewN 1 | exact (LP.out.drewN _)
    · have hVL := HVL.out
      have hKK := HK.out
      have KN := Kn.of (j := j) (n := n) (k := k) HDL.out HDV.out hVL hKK (by rw [oU.1]; omega) (by
        have h := HT.out
        rw [show j + 1 + n = j + n + 1 by omega] at h
        exact h) HV1.out (by rw [HV.out]; exact HW.out)
      obtain ⟨p0, hp0⟩ : ∃ p, p = j + n := ⟨_, rfl⟩
      obtain ⟨p1, hp1⟩ : ∃ p, p = j + k + 1 := ⟨_, rfl⟩
      obtain ⟨p2, hp2⟩ : ∃ p, p = j + k := ⟨_, rfl⟩
      obtain ⟨n1, hn1'⟩ : ∃ p, p = k + 1 := ⟨_, rfl⟩
      have c0 := oU.at p0 (by omega)
      have c1 := oU.at p1 (by omega)
      have c2 := oU.at p2 (by omega)
      have d1 := oV.at n1 (by omega)
      have d2 := oV.at k (by omega)
      have lx := oU.lt.2
      have lv := oV.lt.2
      rw [HV.out, ← hp0, ← hp1, ← hp2, ← hn1'] at KN
      have b0 := gi_bd HDL.out p0
      have b1 := gi_bd HDL.out p1
      have b2 := gi_bd HDL.out p2
      have b3 := gi_bd HDV.out n1
      have b4 := gi_bd HDV.out k
      have hT := KN.t_lt
      have hV1 := KN.v1ge
      obtain ⟨T, hTd⟩ : ∃ T, uL.getD p0 0 * 65536 + uL.getD p1 0 = T := ⟨_, rfl⟩
      rw [hTd] at KN hT
      obtain ⟨W, hWd⟩ : ∃ W, valL (uL.drop j) = W := ⟨_, rfl⟩
      rw [hWd] at KN
      have HWd := Lib.hid hWd
      obtain ⟨x1, hx1⟩ : ∃ x, v.getD n1 0 = x := ⟨_, rfl⟩
      obtain ⟨x2, hx2⟩ : ∃ x, v.getD k 0 = x := ⟨_, rfl⟩
      obtain ⟨y2, hy2⟩ : ∃ x, uL.getD p2 0 = x := ⟨_, rfl⟩
      rw [hx1] at KN hT hV1
      rw [hx2, hy2] at KN
      have e1 : gi v n1 = (x1 : Int) := by unfold gi; rw [hx1]
      have e2 : gi v k = (x2 : Int) := by unfold gi; rw [hx2]
      have e3 : gi uL p2 = (y2 : Int) := by unfold gi; rw [hy2]
      have HX1 := Lib.hid e1
      have HX2 := Lib.hid e2
      have HX3 := Lib.hid e3
      rw [e1] at d1 b3
      rw [e2] at d2 b4
      rw [e3] at c2 b2
      have eT : gi uL p0 * 65536 + gi uL p1 = (T : Int) := by rw [← hTd]; unfold gi; omega
      generalize gi uL p0 = u0 at *
      generalize gi uL p1 = u1 at *
      have eS : IntKind.u64.wrap (u0 * 65536) = u0 * 65536 := by rw [IntKind.wrap_u64]; omega
      have eO : bits .or .u64 (u0 * 65536) u1 = (T : Int) := by rw [or64 _ _ (by omega) (by omega) (by omega) (by omega) (by omega), eT]
      have eu0 : IntKind.u64.wrap u0 = u0 := by rw [IntKind.wrap_u64]; omega
      have eu1 : IntKind.u64.wrap u1 = u1 := by rw [IntKind.wrap_u64]; omega
      have eu2 : IntKind.u64.wrap (y2 : Int) = y2 := by rw [IntKind.wrap_u64]; omega
      have ev1 : IntKind.u64.wrap (x1 : Int) = x1 := by rw [IntKind.wrap_u64]; omega
      have ev2 : IntKind.u64.wrap (x2 : Int) = x2 := by rw [IntKind.wrap_u64]; omega
      have x1p : ¬ (x1 : Int) = 0 := by omega
      obtain ⟨G0, hG0⟩ : ∃ G, T / x1 = G := ⟨_, rfl⟩
      obtain ⟨R0, hR0⟩ : ∃ R, T % x1 = R := ⟨_, rfl⟩
      have eG : (T : Int) / (x1 : Int) = (G0 : Int) := by rw [← hG0]; exact (Int.natCast_ediv _ _).symm
      have eR : (T : Int) % (x1 : Int) = (R0 : Int) := by rw [← hR0]; exact (Int.natCast_emod _ _).symm
      have hGR : G0 * x1 + R0 = T := by rw [← hG0, ← hR0, Nat.mul_comm]; exact Nat.div_add_mod T x1
      have hRl : R0 < x1 := by rw [← hR0]; exact Nat.mod_lt _ (by omega)
      have K1 := KN.start hGR hRl
      have K2 := KN.start_le hGR
      obtain ⟨Q, hQ⟩ : ∃ Q, W / V = Q := ⟨_, rfl⟩
      rw [hQ] at K1
      have hQ64 := KN.q_lt
      rw [hQ] at hQ64
      have HQ := Lib.hid hQ
      have HGR := Lib.hid hGR
      have a0 : (j : Int) + (n : Int) = (p0 : Int) := by omega
      have a1 : (p0 : Int) - 1 = (p1 : Int) := by omega
      have a2 : (p0 : Int) - 2 = (p2 : Int) := by omega
      have a3 : (n : Int) - 1 = (n1 : Int) := by omega
      have a4 : (n : Int) - 2 = (k : Int) := by omega
      have i0' : p0 < m + 1 := by omega
      have i1' : p1 < m + 1 := by omega
      have i2' : p2 < m + 1 := by omega
      have i3' : n1 < n := by omega
      have i4' : k < n := by omega
      have j0 : (0 : Int) ≤ (j : Int) := by omega
      have k2 : ((j + 1 : Nat) : Int) - 1 = (j : Int) := by omega
      rw [k2]
      have KN := Lib.hid KN
      have oU := Lib.hid oU
      have oQ := Lib.hid oQ
      have oV := Lib.hid oV
      have HP := Lib.hid (show p0 = j + n ∧ p1 = j + k + 1 ∧ p2 = j + k ∧ n1 = k + 1 ∧ n = k + 2 from ⟨hp0, hp1, hp2, hn1', hKK⟩)
      have hnm : n ≤ 1000 := by omega
      have hjJ : j < J1 := by omega
      clear hVL hKK hp0 hp1 hp2 hn1' hT hTd hWd hx1 hx2 hy2 e1 e2 e3 hG0 hR0 hGR hQ k2 hV1 eT hK
      go_wp2_with fail
      go_quiet (fail)
      go_wp2_with fail
      go_quiet (fail)
      go_upto_block 2 with fail
      go_cut [9] (fun g W => ∃ G : Nat, g = .int .u64 G ∧ G ≤ 65535 ∧ Hid (Q ≤ G) ∧ Hid (G ≤ Q + 1) ∧ OwnA W base gx cx (m + 1) uL ∧ OwnA W base gq J1 J1 qL ∧ OwnA W base gv cv n v ∧ Below base w W)
      case first =>
        go_wp2_with fail
        go_loopw [9, 10] (fun g r W => ∃ G R : Nat, g = .int .u64 G ∧ r = .int .u64 R ∧ Q ≤ G ∧ G ≤ 65537 ∧ R ≤ 65535 ∧ Hid (G * x1 + R = T) ∧ OwnA W base gx cx (m + 1) uL ∧ OwnA W base gq J1 J1 qL ∧ OwnA W base gv cv n v ∧ Below base w W) (fun g _ _ => (intOf g).toNat)
        case atStart => exact ⟨G0, R0, rfl, by rw [eR], K1, K2, by omega, HGR, oU.out, oQ.out, oV.out, by repeat' (first | (with_reducible assumption) | (with_reducible exact Below.refl _ _) | (with_reducible refine below_drewN ?_ _) | (with_reducible refine Below.drew ?_) | (with_reducible refine Below.setCell ?_ ?_ _) | (with_reducible refine Below.alloc ?_ ?_ _) | omega | (simp; done) | (simp; omega))⟩
        case round =>
          clear oU oQ oV hbw K1 K2 eG eR eS eO hRl HGR
          obtain ⟨G, R, rfl, rfl, g1, g2, g3, HR, oU, oQ, oV, hbw⟩ := hrel
          have c2 := oU.at p2 (by omega)
          have d1 := oV.at n1 (by omega)
          have d2 := oV.at k (by omega)
          rw [HX3.out] at c2
          rw [HX1.out] at d1
          rw [HX2.out] at d2
          have lx := oU.lt.2
          have lv := oV.lt.2
          have oU := Lib.hid oU
          have oQ := Lib.hid oQ
          have oV := Lib.hid oV
          obtain ⟨pr, hpr⟩ : ∃ pr, G * x2 = pr := ⟨_, rfl⟩
          obtain ⟨S, hS⟩ : ∃ S, R * 65536 + y2 = S := ⟨_, rfl⟩
          obtain ⟨t9, ht9⟩ : ∃ b, (decide (65535 < G) || decide (S < pr)) = b := ⟨_, rfl⟩
          have HPR := Lib.hid (show G * x2 = pr ∧ R * 65536 + y2 = S from ⟨hpr, hS⟩)
          have HT9 := Lib.hid ht9
          have hpr9 : pr ≤ 65537 * 65535 := by rw [← hpr]; exact Nat.mul_le_mul (by omega) (by omega)
          have eP : (G : Int) * (x2 : Int) = (pr : Int) := by rw [← hpr]; exact (Int.natCast_mul _ _).symm
          have eP2 : IntKind.u64.wrap ((G : Int) * (x2 : Int)) = (pr : Int) := by rw [eP, IntKind.wrap_u64]; omega
          have eS : IntKind.u64.wrap ((R : Int) * 65536) = (R : Int) * 65536 := by rw [IntKind.wrap_u64]; omega
          have eO : bits .or .u64 ((R : Int) * 65536) (y2 : Int) = (S : Int) := by rw [or64 _ _ (by omega) (by omega) (by omega) (by omega) (by omega), ← hS]; omega
          have eP3 : IntKind.u64.wrap (pr : Int) = (pr : Int) := by rw [IntKind.wrap_u64]; omega
          clear hpr hS ht9 hpr9
          go_upto_region 9 with fail
          go_cut [94] (fun c W => c = .bool t9 ∧ OwnA W base gx cx (m + 1) uL ∧ OwnA W base gq J1 J1 qL ∧ OwnA W base gv cv n v ∧ Below base w W)
          case first =>
            by_cases q1 : 65535 < G
            · obtain rfl : t9 = true := by rw [← HT9.out, decide_eq_true q1]; rfl
              have g9 : (65535 : Int) < (G : Int) := by omega
              clear q1
              go_quiet (fail)
              go_wp2_with fail
              go_meet
              exact ⟨by first | rfl | (simp; done), oU.out.drewN _, oQ.out.drewN _, oV.out.drewN _, below_drewN hbw _⟩
            · obtain rfl : t9 = decide (S < pr) := by rw [← HT9.out, decide_eq_false q1, Bool.false_or]
              have g9 : decide ((65535 : Int) < (G : Int)) = false := decide_eq_false (by omega)
              have g8 : decide ((S : Int) < (pr : Int)) = decide (S < pr) := by
                by_cases h : S < pr
                · rw [decide_eq_true h]; exact decide_eq_true (by omega)
                · rw [decide_eq_false h]; exact decide_eq_false (by omega)
              have g8' : ((S : Int) < (pr : Int)) ↔ (S < pr) := by omega
              clear q1
              go_quiet (fail)
              go_wp2_with fail
              go_meet
              exact ⟨by first | rfl | (simp; done) | (simp [g8]; done), oU.out.drewN _, oQ.out.drewN _, oV.out.drewN _, below_drewN hbw _⟩
          case rest =>
            clear oU oQ oV c2 d1 d2 lx lv eP eP2 eS eO hbw
            obtain ⟨rfl, oU, oQ, oV, hbw⟩ := hcut
            have d1 := oV.at n1 (by omega)
            have lv := oV.lt.2
            have e1' : gi v n1 = (x1 : Int) := HX1.out
            rw [e1'] at d1
            have oU := Lib.hid oU
            have oQ := Lib.hid oQ
            have oV := Lib.hid oV
            obtain ⟨P1, P2⟩ := HPR.out
            cases t9
            · have hno : G ≤ 65535 ∧ pr ≤ S := by
                have h := HT9.out
                simp only [Bool.or_eq_false_iff, decide_eq_false_iff_not] at h
                omega
              have hf := KN.out.done HR.out hno.1 (by rw [P1, P2]; exact hno.2)
              rw [HQ.out] at hf
              have HF := Lib.hid hf
              have HG1 := Lib.hid g1
              have HG3 := Lib.hid hno.1
              clear hf hno P1 P2 g1 g2 g3 e1'
              go_wp2_with fail
              go_meet
              exact ⟨G, rfl, HG3.out, HG1, HF, oU.out, oQ.out, oV.out, by repeat' (first | (with_reducible assumption) | (with_reducible exact Below.refl _ _) | (with_reducible refine below_drewN ?_ _) | (with_reducible refine Below.drew ?_) | (with_reducible refine Below.setCell ?_ ?_ _) | (with_reducible refine Below.alloc ?_ ?_ _) | omega | (simp; done) | (simp; omega))⟩
            · have hd : Q ≤ G - 1 ∧ 1 ≤ G := by
                have h := HT9.out
                simp only [Bool.or_eq_true, decide_eq_true_eq] at h
                rcases h with h | h
                · have hd := KN.out.down1 h
                  rw [HQ.out] at hd
                  omega
                · have hd := KN.out.down2 HR.out (by rw [P1, P2]; exact h)
                  rw [HQ.out] at hd
                  refine ⟨hd, ?_⟩
                  rcases Nat.eq_zero_or_pos G with h0 | h0
                  · rw [h0, Nat.zero_mul] at P1; omega
                  · exact h0
              obtain ⟨H, hH⟩ : ∃ H, G = H + 1 := ⟨G - 1, by omega⟩
              obtain ⟨Z, hZ⟩ : ∃ Z, R + x1 = Z := ⟨_, rfl⟩
              have hst : H * x1 + Z = T := by have h := HR.out; rw [hH, Nat.add_mul] at h; omega
              have eH : IntKind.u64.wrap ((G : Int) - 1) = (H : Int) := by rw [IntKind.wrap_u64]; omega
              have eH2 : (G : Int) - 1 = (H : Int) := by omega
              have eZ : IntKind.u64.wrap ((R : Int) + (x1 : Int)) = (Z : Int) := by rw [IntKind.wrap_u64]; omega
              have eZ2 : (R : Int) + (x1 : Int) = (Z : Int) := by omega
              have hbr := KN.out.broke hst
              have hdn := KN.out.done hst
              rw [HQ.out] at hdn
              have HST := Lib.hid hst
              have HD := Lib.hid (show Q ≤ H by omega)
              have hHG : H < G := by omega
              have hH65 : H ≤ 65537 := by omega
              have hg0 : (1 : Int) ≤ (G : Int) := by omega
              have hg1 : (G : Int) ≤ 65537 := by omega
              have hz0 : (0 : Int) ≤ (Z : Int) := by omega
              have hz1 : (Z : Int) ≤ 131070 := by omega
              clear P1 P2 hd hst hZ hH HT9 HPR e1'
              by_cases c3 : 65535 < Z
              · have hf := Lib.hid (hdn (hbr (by omega)).1 (hbr (by omega)).2)
                have hf1 := Lib.hid (hbr (by omega)).1
                have g7 : (65535 : Int) < (Z : Int) := by omega
                clear hbr hdn c3
                go_wp2_with fail
                go_meet
                exact ⟨H, by first | rfl | (simp; done) | (simp [*]; done), hf1.out, HD, hf, oU.out, oQ.out, oV.out, by repeat' (first | (with_reducible assumption) | (with_reducible exact Below.refl _ _) | (with_reducible refine below_drewN ?_ _) | (with_reducible refine Below.drew ?_) | (with_reducible refine Below.setCell ?_ ?_ _) | (with_reducible refine Below.alloc ?_ ?_ _) | omega | (simp; done) | (simp; omega))⟩
              · have g7 : decide ((65535 : Int) < (Z : Int)) = false := decide_eq_false (by omega)
                have g6 : (Z : Int) ≤ 65535 := by omega
                have g5 : Z ≤ 65535 := by omega
                clear hbr hdn c3
                go_wp2_with fail
                go_roundw
                case rel => exact ⟨H, Z, by first | rfl | (simp; done) | (simp [*]; done), by first | rfl | (simp; done) | (simp [*]; done), HD.out, hH65, g5, HST, oU.out, oQ.out, oV.out, by repeat' (first | (with_reducible assumption) | (with_reducible exact Below.refl _ _) | (with_reducible refine below_drewN ?_ _) | (with_reducible refine Below.drew ?_) | (with_reducible refine Below.setCell ?_ ?_ _) | (with_reducible refine Below.alloc ?_ ?_ _) | omega | (simp; done) | (simp; omega))⟩
                case measure => first | (simp [intOf]; done) | (simp [intOf]; omega)
      case rest =>
        clear oU oQ oV hbw K1 K2 eG eR eS eO hRl HGR
        obtain ⟨G, rfl, hG, HG1, HG2, oU, oQ, oV, hbw⟩ := hcut
        have HUl := Lib.hid oU.1
        have HQl := Lib.hid oQ.1
        obtain ⟨hp0, hp1, hp2, hn1', hKK⟩ := HP.out
        have hV0 : 0 < V := KN.out.Vpos
        have HR : Hid (msB G (uL.drop j) v n + msC G v n ≤ uL.getD (j + n) 0 → uL.getD (j + n) 0 = msB G (uL.drop j) v n + msC G v n ∧ KE ((kmL uL j (msD G (uL.drop j) v) n).set (j + n) 0) (qL.set j G) V (valL u) j n) := Lib.hid (fun h =>
          KH.out.right HDV.out HVL.out HV.out.symm hV0 (by have := HUl.out; omega) (by have := HQl.out; omega) (by rw [HWd.out, HQ.out]; exact HG1.out) (by rw [HWd.out, HQ.out]; exact HG2.out) (by omega) h)
        have HO : Hid (uL.getD (j + n) 0 < msB G (uL.drop j) v n + msC G v n → 1 ≤ G ∧ msB G (uL.drop j) v n + msC G v n = uL.getD (j + n) 0 + 1 ∧ adC ((List.range n).map (msD G (uL.drop j) v)) v n = 1 ∧
          KE ((kmL ((kmL uL j (msD G (uL.drop j) v) n).set (j + n) 65535) j (adD ((List.range n).map (msD G (uL.drop j) v)) v) n).set (j + n) 0) (qL.set j (G - 1)) V (valL u) j n) := Lib.hid (fun h =>
          KH.out.over HDV.out HVL.out HV.out.symm hV0 (by have := HUl.out; omega) (by have := HQl.out; omega) (by rw [HWd.out, HQ.out]; exact HG1.out) (by rw [HWd.out, HQ.out]; exact HG2.out) (by omega) h)
        have HX := Lib.hid (HDL.out.drop j)
        obtain ⟨x, hx⟩ : ∃ x, uL.drop j = x := ⟨_, rfl⟩
        rw [hx] at HR HO HX
        have HXx := Lib.hid hx
        have HGl := Lib.hid hG
        have hG64 : (G : Int) ≤ 65535 := by omega
        clear HG1 HG2 hp0 hp1 hp2 hn1' hKK hV0 hx hG KN HS HZ HW HT
        have oU := Lib.hid oU
        have oQ := Lib.hid oQ
        have oV := Lib.hid oV
        go_wp2_with fail
        go_loopw [108, 11, 12] (fun i b c W => ∃ I : Nat, I ≤ n ∧ i = .int .i64 I ∧ b = .int .i64 ((msB G x v I : Nat) : Int) ∧ c = .int .u64 ((msC G v I : Nat) : Int) ∧ OwnA W base gx cx (m + 1) (kmL uL j (msD G x v) I) ∧ OwnA W base gq J1 J1 qL ∧ OwnA W base gv cv n v ∧ Below base w W) (fun i _ _ _ => n - (intOf i).toNat)
        case atStart => exact ⟨0, Nat.zero_le _, rfl, rfl, rfl, oU.out.congr (kmL_zero _ _ _).symm, oQ.out, oV.out, hbw⟩
        case round =>
          clear oU oQ oV hbw
          obtain ⟨I, hI, rfl, rfl, rfl, oU, oQ, oV, hbw⟩ := hrel
          have hjn : j + n < m + 1 := by have := HP.out; omega
          have hUl := HUl.out
          have hb01 := msB_le G x v I
          have hc64 := msC_le HGl.out HDV.out I
          by_cases hIn : I < n
          · have cu := oU.at (j + I) (by omega)
            have eu : gi (kmL uL j (msD G x v) I) (j + I) = ((x.getD I 0 : Nat) : Int) := by
              unfold gi
              rw [kmL_get _ (by omega) (Nat.le_refl _), ← HXx.out, kn_getx]
            rw [eu] at cu
            have cv0 := oV.at I hIn
            have ev : gi v I = ((v.getD I 0 : Nat) : Int) := rfl
            rw [ev] at cv0
            have fr := oU.free (j + I)
            have rl := oU.lt.2
            have lv := oV.lt.2
            have gl := oU.lt.1
            have dx := HX.out.getD I
            have dv := HDV.out.getD I
            have hmd := (ms_dig (g := G) (v := v) HX.out I)
            have hmb := msB_le G x v (I + 1)
            have hmc : msC G v (I + 1) = (G * v.getD I 0 + msC G v I) / 65536 := rfl
            obtain ⟨p, hp⟩ : ∃ p, G * v.getD I 0 = p := ⟨_, rfl⟩
            have hpb : p ≤ 65535 * 65535 := by rw [← hp]; exact Nat.mul_le_mul HGl.out (by omega)
            obtain ⟨P, hP⟩ : ∃ P, p + msC G v I = P := ⟨_, rfl⟩
            rw [hp, hP] at hmd hmc
            obtain ⟨r, hr⟩ : ∃ r, P % 65536 = r := ⟨_, rfl⟩
            rw [hr] at hmd
            have hr6 : r < 65536 := by omega
            have hPb : P ≤ 4294967295 := by omega
            have S1 := Lib.hid (fun (W : World) (o : OwnA W base gx cx (m + 1) (kmL uL j (msD G x v) I)) (z : Int) (hz : z = ((msD G x v I : Nat) : Int)) => (o.set (j + I) (msD G x v I) z hz).congr (kmL_step (l := uL) (j := j) (i := I) (msD G x v) (by omega)))
            generalize hxI : x.getD I 0 = xI at *
            generalize hvI : v.getD I 0 = vI at *
            generalize hB0 : msB G x v I = B0 at *
            generalize hC0 : msC G v I = C0 at *
            generalize hB1 : msB G x v (I + 1) = B1 at *
            generalize hC1 : msC G v (I + 1) = C1 at *
            generalize hD0 : msD G x v I = D0 at *
            obtain ⟨hD1, hD2⟩ := hmd
            have a1 : (I : Int) + (j : Int) = ((j + I : Nat) : Int) := by omega
            obtain ⟨pI, hpI⟩ : ∃ pI, j + I = pI := ⟨_, rfl⟩
            rw [hpI] at a1 cu fr S1
            have a2 : pI < m + 1 := by omega
            have f1 : IntKind.u64.wrap (vI : Int) = vI := by rw [IntKind.wrap_u64]; omega
            have f2 : (G : Int) * (vI : Int) = (p : Int) := by rw [← hp]; exact (Int.natCast_mul _ _).symm
            have f3 : (p : Int) + (C0 : Int) = (P : Int) := by omega
            have f4 : (P : Int) / 65536 = (C1 : Int) := by rw [hmc]; exact (Int.natCast_ediv _ _).symm
            have f5 : bits .and .u64 (P : Int) 65535 = (r : Int) := by
              rw [and_mask 16 (by decide) _ (by omega) (by omega) _ (by decide), ← hr]; omega
            obtain ⟨t, ht⟩ : ∃ t : Int, (xI : Int) - (B0 : Int) - (r : Int) = t := ⟨_, rfl⟩
            have f6 : t % 65536 = (D0 : Int) := by rw [← ht]; omega
            have f7 : bits .and .i64 (t / 65536) 1 = (B1 : Int) := by
              have e1 : (B1 : Int) = if t < 0 then 1 else 0 := by rw [← ht]; split <;> omega
              rw [e1]
              by_cases h0 : t < 0
              · rw [if_pos h0, show t / 65536 = -1 by omega]; decide
              · rw [if_neg h0, show t / 65536 = 0 by omega]; decide
            have f8 : IntKind.u16.wrap t = t % 65536 := IntKind.wrap_u16 t
            have g1 : -65536 ≤ t := by omega
            have g2 : t ≤ 65535 := by omega
            have g3 : (p : Int) ≤ 4294967295 := by omega
            have g4 : (P : Int) ≤ 4294967295 := by omega
            have g5 : (0 : Int) ≤ (P : Int) := by omega
            have g6 : (0 : Int) ≤ (p : Int) := by omega
            have g7 : (I : Int) < (n : Int) := by omega
            have g8 : (0 : Int) ≤ (xI : Int) ∧ (xI : Int) ≤ 65535 := by omega
            have g9 : (0 : Int) ≤ (r : Int) ∧ (r : Int) ≤ 65535 := by omega
            have g10 : (B0 : Int) ≤ 1 ∧ (0 : Int) ≤ B0 := by omega
            have HB1 := Lib.hid hB1
            have HC1 := Lib.hid hC1
            clear hxI hvI hB0 hC0 hB1 hC1 hD0 hD1 hD2 hmc hp hP hr hpb hPb hr6 dx dv eu ev hUl hpI
            have oU := Lib.hid oU
            have oQ := Lib.hid oQ
            have oV := Lib.hid oV
            go_wp2_with fail
            go_roundw
            case rel => exact ⟨I + 1, hIn, by go_num, by rw [HB1.out], by rw [HC1.out], S1.out _ oU.out _ rfl, oQ.out.other hqx, oV.out.other hgxv.symm, by repeat' (first | (with_reducible assumption) | (with_reducible exact Below.refl _ _) | (with_reducible refine below_drewN ?_ _) | (with_reducible refine Below.drew ?_) | (with_reducible refine Below.setCell ?_ ?_ _) | (with_reducible refine Below.alloc ?_ ?_ _) | omega | (simp; done) | (simp; omega))⟩
            case measure => first | (simp [intOf]; done) | (simp [intOf]; omega)
          · obtain rfl : n = I := by omega
            have hqJ : j < J1 := by omega
            have cu := oU.at p0 (by omega)
            have hp0 : p0 = j + n := HP.out.1
            have eu : gi (kmL uL j (msD G x v) n) p0 = ((uL.getD (j + n) 0 : Nat) : Int) := by
              unfold gi
              rw [hp0, kmL_get _ (by omega) (Nat.le_refl _)]
            rw [eu] at cu
            have dy := HDL.out.getD (j + n)
            obtain ⟨y, hy⟩ : ∃ y, uL.getD (j + n) 0 = y := ⟨_, rfl⟩
            rw [hy] at cu dy HR HO
            obtain ⟨B, hB⟩ : ∃ y, msB G x v n = y := ⟨_, rfl⟩
            obtain ⟨C, hC⟩ : ∃ y, msC G v n = y := ⟨_, rfl⟩
            rw [hB, hC] at HR HO
            rw [hB] at hb01
            rw [hC] at hc64
            have fr := oU.free p0
            have lx := oU.lt.2
            have gx0 := oU.lt.1
            have lq := oQ.lt.2
            have gq0 := oQ.lt.1
            have frq := oQ.free j
            have hb2 : (B : Int) ≤ 1 ∧ (0 : Int) ≤ B := by omega
            have hc2 : (C : Int) ≤ 65534 ∧ (0 : Int) ≤ C := by omega
            have hy2 : (y : Int) ≤ 65535 ∧ (0 : Int) ≤ y := by omega
            have i0' : p0 < m + 1 := by omega
            have hsx := Lib.hid (show ∀ (W : World) (d : Nat) (z : Int), OwnA W base gx cx (m + 1) (kmL uL j (msD G x v) n) → z = (d : Int) → OwnA (W.setCell ⟨gx, p0, none⟩ (.int .u16 z)) base gx cx (m + 1) ((kmL uL j (msD G x v) n).set (j + n) d) from fun W d z o hz => by rw [← hp0]; exact o.set p0 d z hz)
            simp only [hB, hC]
            clear hp0 eu hy hUl hI hIn
            rcases Nat.lt_or_ge y (B + C) with hlt | hge
            · obtain ⟨r1, r2, r3, r4⟩ := HO.out hlt
              obtain ⟨H, hH⟩ : ∃ H, G - 1 = H := ⟨_, rfl⟩
              rw [hH] at r4
              have R4 := Lib.hid r4
              have R3 := Lib.hid r3
              have t1 : (y : Int) - (B : Int) - (C : Int) = -1 := by omega
              have eH : IntKind.u64.wrap ((G : Int) - 1) = (H : Int) := by rw [IntKind.wrap_u64]; omega
              have eH2 : (G : Int) - 1 = (H : Int) := by omega
              have eH3 : IntKind.u16.wrap (H : Int) = (H : Int) := by rw [IntKind.wrap_u16]; omega
              have eM : IntKind.u16.wrap (-1) = 65535 := by decide
              have hG1 : (1 : Int) ≤ (G : Int) := by omega
              have h65 : ((65535 : Nat) : Int) = 65535 := rfl
              clear HR HO r2 r3 r4 hlt hH r1
              have o2 := Lib.hid (hsx.out wr 65535 65535 oU rfl)
              have oQ2 := Lib.hid (oQ.other (g' := gx) (K := p0) (x := .int .u16 65535) hqx)
              have oV2 := Lib.hid (oV.other (g' := gx) (K := p0) (x := .int .u16 65535) hgxv.symm)
              have hb2' : Below base w (wr.setCell ⟨gx, p0, none⟩ (.int .u16 65535)) := hbw.setCell (by show base ≤ gx; omega) _
              clear oU oQ oV hbw
              have HJN := Lib.hid (show j + n < uL.length by have := HUl.out; omega)
              obtain ⟨l1, hl1⟩ : ∃ l, (kmL uL j (msD G x v) n).set (j + n) 65535 = l := ⟨_, rfl⟩
              have HL1 := Lib.hid hl1
              obtain ⟨X, hXX⟩ : ∃ X, (List.range n).map (msD G x v) = X := ⟨_, rfl⟩
              have HXX := Lib.hid hXX
              have HXd : Hid (DigL X) := Lib.hid (by rw [← hXX]; exact DigL.map n _ (fun i _ => (ms_dig HX.out i).1))
              have HXl : Hid (X.length = n) := Lib.hid (by rw [← hXX]; simp)
              have HL1l : Hid (l1.length = m + 1) := Lib.hid (by rw [← hl1, List.length_set, kmL_len _ (by have := HUl.out; omega)]; exact HUl.out)
              rw [hl1] at o2 R4
              rw [hXX] at R3 R4
              clear hl1 hXX hsx
              go_wp2_with fail
              go_loopw [170, 17] (fun i c W => ∃ I : Nat, I ≤ n ∧ i = .int .i64 I ∧ c = .int .u32 ((adC X v I : Nat) : Int) ∧ OwnA W base gx cx (m + 1) (kmL l1 j (adD X v) I) ∧ OwnA W base gq J1 J1 qL ∧ OwnA W base gv cv n v ∧ Below base w W) (fun i _ _ => n - (intOf i).toNat)
              case atStart => exact ⟨0, Nat.zero_le _, rfl, rfl, o2.out.congr (kmL_zero _ _ _).symm, oQ2.out, oV2.out, hb2'⟩
              case round =>
                clear o2 oQ2 oV2 hb2' fr lx lq frq cu
                obtain ⟨I, hI, rfl, rfl, oU, oQ, oV, hbw⟩ := hrel
                have hcb := adC_le HXd.out HDV.out I
                by_cases hIn : I < n
                · have cu := oU.at (j + I) (by omega)
                  have eu : gi (kmL l1 j (adD X v) I) (j + I) = ((X.getD I 0 : Nat) : Int) := by
                    unfold gi
                    rw [← HL1.out, ← HXX.out, back_get HJN.out hIn]
                  rw [eu] at cu
                  have cv0 := oV.at I hIn
                  have ev : gi v I = ((v.getD I 0 : Nat) : Int) := rfl
                  rw [ev] at cv0
                  have fr := oU.free (j + I)
                  have lx := oU.lt.2
                  have lv := oV.lt.2
                  have dx := HXd.out.getD I
                  have dv := HDV.out.getD I
                  have hac : adC X v (I + 1) = (adC X v I + X.getD I 0 + v.getD I 0) / 65536 := rfl
                  have had : adD X v I = (adC X v I + X.getD I 0 + v.getD I 0) % 65536 := rfl
                  have S1 := Lib.hid (fun (W : World) (o : OwnA W base gx cx (m + 1) (kmL l1 j (adD X v) I)) (z : Int) (hz : z = ((adD X v I : Nat) : Int)) => (o.set (j + I) (adD X v I) z hz).congr (kmL_step (l := l1) (j := j) (i := I) (adD X v) (by have := HL1l.out; omega)))
                  generalize hxI : X.getD I 0 = xI at *
                  generalize hvI : v.getD I 0 = vI at *
                  generalize hC0 : adC X v I = C0 at *
                  generalize hC1 : adC X v (I + 1) = C1 at *
                  generalize hD0 : adD X v I = D0 at *
                  obtain ⟨S0, hS0⟩ : ∃ P, xI + vI = P := ⟨_, rfl⟩
                  obtain ⟨P, hP⟩ : ∃ P, C0 + S0 = P := ⟨_, rfl⟩
                  have hP2 : C0 + xI + vI = P := by omega
                  rw [hP2] at hac had
                  have a1 : (I : Int) + (j : Int) = ((j + I : Nat) : Int) := by omega
                  obtain ⟨pI, hpI⟩ : ∃ pI, j + I = pI := ⟨_, rfl⟩
                  rw [hpI] at a1 cu fr S1
                  have a2 : pI < m + 1 := by omega
                  have f0 : IntKind.u32.wrap (xI : Int) = xI := by rw [IntKind.wrap_u32]; omega
                  have f1 : IntKind.u32.wrap (vI : Int) = vI := by rw [IntKind.wrap_u32]; omega
                  have f2 : IntKind.u32.wrap ((xI : Int) + (vI : Int)) = (S0 : Int) := by rw [IntKind.wrap_u32]; omega
                  have f3 : IntKind.u32.wrap ((C0 : Int) + (S0 : Int)) = (P : Int) := by rw [IntKind.wrap_u32]; omega
                  have f2' : (xI : Int) + (vI : Int) = (S0 : Int) := by omega
                  have f3' : (C0 : Int) + (S0 : Int) = (P : Int) := by omega
                  have f4 : (P : Int) / 65536 = (C1 : Int) := by rw [hac]; exact (Int.natCast_ediv _ _).symm
                  have f5 : (P : Int) % 65536 = (D0 : Int) := by rw [had]; exact (Int.natCast_emod _ _).symm
                  have f8 : IntKind.u16.wrap (P : Int) = (P : Int) % 65536 := IntKind.wrap_u16 _
                  have f9 : IntKind.u16.wrap (P : Int) = (D0 : Int) := by rw [f8, f5]
                  have g4 : (P : Int) ≤ 131071 := by omega
                  have g5 : (0 : Int) ≤ (P : Int) := by omega
                  have g7 : (I : Int) < (n : Int) := by omega
                  have HC1 := Lib.hid hC1
                  clear hxI hvI hC0 hC1 hD0 hac had hP hP2 hS0 dx dv eu ev hpI f8
                  have oU := Lib.hid oU
                  have oQ := Lib.hid oQ
                  have oV := Lib.hid oV
                  go_wp2_with fail
                  go_quiet (fail)
                  have S2 := S1.out _ (oU.out.drewN nq) _ rfl
                  have oU2 := oU.out.drewN nq
                  have oQ3 := Lib.hid ((oQ.out.drewN nq).other (g' := gx) (K := pI) (x := .int .u16 (D0 : Int)) hqx)
                  have oV3 := Lib.hid ((oV.out.drewN nq).other (g' := gx) (K := pI) (x := .int .u16 (D0 : Int)) hgxv.symm)
                  have hb3 : Below base w ((wr.drewN nq).setCell ⟨gx, pI, none⟩ (.int .u16 (D0 : Int))) := (below_drewN hbw nq).setCell (by show base ≤ gx; omega) _
                  have S2 := Lib.hid S2
                  have frn := oU2.free pI
                  have lxn := oU2.lt.2
                  clear oU oQ oV oU2 hbw
                  go_wp2_with fail
                  go_roundw
                  case rel => exact ⟨I + 1, hIn, by first | rfl | (simp; done) | go_num, by rw [HC1.out], S2.out, oQ3.out, oV3.out, hb3⟩
                  case measure => first | (simp [intOf]; done) | (simp [intOf]; omega)
                · obtain rfl : n = I := by omega
                  have hp0 : p0 = j + n := HP.out.1
                  have cu := oU.at p0 (by omega)
                  have eu : gi (kmL l1 j (adD X v) n) p0 = 65535 := by
                    unfold gi
                    rw [hp0, ← HL1.out, back_top HJN.out]
                    rfl
                  rw [eu] at cu
                  have e1c : adC X v n = 1 := R3.out
                  simp only [e1c]
                  have fr := oU.free p0
                  have lx := oU.lt.2
                  have gx0 := oU.lt.1
                  have i0' : p0 < m + 1 := by omega
                  have e11 : IntKind.u16.wrap 1 = 1 := by decide
                  have e12 : IntKind.u16.wrap (65535 + 1) = 0 := by decide
                  have e13 : IntKind.u16.wrap 65536 = 0 := by decide
                  have o2 := Lib.hid (show OwnA (wr.setCell ⟨gx, p0, none⟩ (.int .u16 0)) base gx cx (m + 1) ((kmL l1 j (adD X v) n).set (j + n) 0) by rw [← hp0]; exact oU.set p0 0 0 rfl)
                  have oQ1 := oQ.other (g' := gx) (K := p0) (x := .int .u16 0) hqx
                  have oQ2 := Lib.hid (oQ1.set j H (H : Int) rfl)
                  have o3 := Lib.hid (o2.out.other (g' := gq) (K := j) (x := .int .u16 (H : Int)) hqx.symm)
                  have oV2 := Lib.hid ((oV.other (g' := gx) (K := p0) (x := .int .u16 0) hgxv.symm).other (g' := gq) (K := j) (x := .int .u16 (H : Int)) hqv.symm)
                  have hbw2 : Below base w ((wr.setCell ⟨gx, p0, none⟩ (.int .u16 0)).setCell ⟨gq, j, none⟩ (.int .u16 (H : Int))) := (hbw.setCell (by show base ≤ gx; omega) _).setCell (by show base ≤ gq; omega) _
                  have cq := oQ1.at j hqJ
                  have frq2 := oQ1.free j
                  have lq2 := oQ1.lt.2
                  clear oU oQ oV oQ1 hbw o2 hp0 eu e1c hI hIn hcb
                  go_wp2_with fail
                  go_roundw
                  case rel => exact ⟨j, _, _, by first | rfl | (simp; done), by omega, o3.out, oQ2.out, oV2.out, R4, hbw2⟩
                  case measure => first | (simp [intOf]; done) | (simp [intOf]; omega)
            · obtain ⟨r1, r2⟩ := HR.out hge
              have R2 := Lib.hid r2
              have t1 : (y : Int) - (B : Int) - (C : Int) = 0 := by omega
              have eG : IntKind.u16.wrap (G : Int) = (G : Int) := by rw [IntKind.wrap_u16]; omega
              have e0 : IntKind.u16.wrap 0 = 0 := by decide
              clear HR HO r1 r2 hge
              have o2 := Lib.hid (hsx.out wr 0 0 oU rfl)
              have oQ1 := oQ.other (g' := gx) (K := p0) (x := .int .u16 0) hqx
              have oQ2 := Lib.hid (oQ1.set j G (G : Int) rfl)
              have o3 := Lib.hid (o2.out.other (g' := gq) (K := j) (x := .int .u16 (G : Int)) hqx.symm)
              have oV2 := Lib.hid ((oV.other (g' := gx) (K := p0) (x := .int .u16 0) hgxv.symm).other (g' := gq) (K := j) (x := .int .u16 (G : Int)) hqv.symm)
              have hbw2 : Below base w ((wr.setCell ⟨gx, p0, none⟩ (.int .u16 0)).setCell ⟨gq, j, none⟩ (.int .u16 (G : Int))) := (hbw.setCell (by show base ≤ gx; omega) _).setCell (by show base ≤ gq; omega) _
              have cq := oQ1.at j hqJ
              have frq2 := oQ1.free j
              have lq2 := oQ1.lt.2
              clear oU oQ oV oQ1 hbw o2
              go_wp2_with fail
              go_roundw
              case rel => exact ⟨j, _, _, by first | rfl | (simp; done), by omega, o3.out, oQ2.out, oV2.out, R2, hbw2⟩
              case measure => first | (simp [intOf]; done) | (simp [intOf]; omega)
end Go.Proofs.YtogmmhacjndebaaDoor
