/- The reference's reading of a decimal's text: DecParse. Condition: a text of at most 400 bytes. -/
import Derived.Test.YtiagngnpbpblaaaDoorQ19
import Derived.Test.YtiagngnpbpblaaaDoorQ20
import Derived.Test.YtiagngnpbpblaaaDoorQ6
namespace Go.Proofs.YtiagngnpbpblaaaDoor
open Go.RowKit
set_option linter.unusedSimpArgs false
set_option linter.unusedVariables false

/-- The cells of a wide number at block g. -/
def W2 (w : World) (g : Nat) (h l : Int) : Prop := w.cell? ⟨g, 0, none⟩ = some (.int .u64 h) ∧ w.cell? ⟨g, 1, none⟩ = some (.int .u64 l) ∧ (∀ i, w.frozen? ⟨g, i, none⟩ = false) ∧ g < w.heap.size
theorem W2.below {w w' : World} {B g : Nat} {h l : Int} (k : W2 w g h l) (hb : Below B w w') (hg : g < B) : W2 w' g h l :=
  ⟨(hb.cell (p := ⟨g, 0, none⟩) hg).trans k.1, (hb.cell (p := ⟨g, 1, none⟩) hg).trans k.2.1, fun i => (hb.frozen (p := ⟨g, i, none⟩) hg).trans (k.2.2.1 i), Nat.lt_of_lt_of_le k.2.2.2 hb.size⟩
theorem W2.beyond {w w' : World} {g : Nat} {h l : Int} (k : W2 w g h l) (hb : Below w.heap.size w w') : W2 w' g h l := k.below hb k.2.2.2
theorem W2.new (w : World) (t : TypeId) (h l : Int) : W2 (w.alloc (.cells #[.int .u64 h, .int .u64 l] t)) w.heap.size h l :=
  ⟨by rw [World.cell?_alloc_at _ _ _ _ rfl]; rfl, by rw [World.cell?_alloc_at _ _ _ _ rfl]; rfl, fun i => by simp [go_sem], by simp⟩
theorem W2.setAll {w : World} {g : Nat} {h l : Int} (k : W2 w g h l) (h' l' : Int) : W2 ((w.setCell ⟨g, 0, none⟩ (.int .u64 h')).setCell ⟨g, 1, none⟩ (.int .u64 l')) g h' l' := by
  have k1 : (w.setCell ⟨g, 0, none⟩ (.int .u64 h')).cell? ⟨g, 1, none⟩ = some (.int .u64 l) := by rw [World.cell?_setCell_other _ _ _ _ (fun e => by injection e with _ h2; cases h2)]; exact k.2.1
  refine ⟨?_, World.cell?_setCell_same _ _ _ k1, fun i => by rw [World.frozen?_setCell, World.frozen?_setCell]; exact k.2.2.1 i, by rw [World.size_setCell, World.size_setCell]; exact k.2.2.2⟩
  rw [World.cell?_setCell_other _ _ _ _ (fun e => by injection e with _ h2; cases h2)]
  exact World.cell?_setCell_same _ _ _ k.1
theorem wdiv_bd (V : Nat) (h : V < 340282366920938463463374607431768211456) : 0 ≤ (V : Int) / 18446744073709551616 ∧ (V : Int) / 18446744073709551616 ≤ 18446744073709551615 ∧ 0 ≤ (V : Int) % 18446744073709551616 ∧ (V : Int) % 18446744073709551616 ≤ 18446744073709551615 := by omega
theorem lt_big {V : Nat} (h : V < 10000000000000000000000000000000000) : V < 340282366920938463463374607431768211456 := by omega
theorem last_split (Y : ByteArray) (k : 0 < Y.size) : Y.data.toList = (Y.extract 0 (Y.size - 1)).data.toList ++ [Y[Y.size - 1]'(by omega)] := by
  have e : Y.data.toList.length = Y.size := by simp
  rw [ext_head]
  have h2 : Y.size - 1 < Y.data.toList.length := by omega
  have h3 : Y.data.toList[Y.size - 1] = Y[Y.size - 1]'(by omega) := rfl
  rw [← h3, ← List.take_succ_eq_append_getElem h2, show Y.size - 1 + 1 = Y.size by omega, ← e, List.take_length]
def szOf : Value → Nat | .string s => s.size | _ => 0
set_option maxHeartbeats 6400000 in
set_option maxRecDepth 100000 in
theorem refDecParse_any (s : ByteArray) (hs : s.size ≤ 400) (w : World) :
    Calls Tryd.prog 6 #[.string s] w fun e w' => DecRet s.data.toList e ∧ Below w.heap.size w w' := by
  have LT := Lib.hid (fun (w : World) => literal6_any s (by omega) w)
  obtain ⟨L, hLe⟩ : ∃ L, s.data.toList = L := ⟨_, rfl⟩
  have hLs : L.length = s.size := by rw [← hLe]; simp
  have htl : s.toList = L := by rw [ByteArray.toList_eq]; exact hLe
  rw [hLe] at LT ⊢
  by_cases c1 : L = [78, 97, 78]
  · have HD : Hid (decP L = (8935141660703064064, 0, 0)) := Lib.hid (by unfold decP; rw [if_pos c1])
    rw [c1] at htl
    clear hLs hLe c1
    go_enter Tryd.func6, Tryd.ntmps6
    go_wp2_with fail
    go_ret3
    exact ⟨by unfold DecRet; rw [HD.out]; rfl, by repeat' (first | (with_reducible assumption) | (with_reducible exact Below.refl _ _) | (with_reducible refine below_drewN ?_ _) | (with_reducible refine Below.drew ?_) | (with_reducible refine Below.setCell ?_ ?_ _) | (with_reducible refine Below.alloc ?_ ?_ _) | omega | (simp; done) | (simp; omega))⟩
  · have n1 : (L == [78, 97, 78]) = false := beq_eq_false_iff_ne.2 c1
    by_cases c2 : L = [73, 110, 102, 105, 110, 105, 116, 121]
    · have HD : Hid (decP L = (8646911284551352320, 0, 0)) := Lib.hid (by unfold decP; rw [if_neg c1, if_pos c2])
      rw [c2] at htl
      clear hLs hLe c1 c2
      go_enter Tryd.func6, Tryd.ntmps6
      go_wp2_with fail
      go_ret3
      exact ⟨by unfold DecRet; rw [HD.out]; rfl, by repeat' (first | (with_reducible assumption) | (with_reducible exact Below.refl _ _) | (with_reducible refine below_drewN ?_ _) | (with_reducible refine Below.drew ?_) | (with_reducible refine Below.setCell ?_ ?_ _) | (with_reducible refine Below.alloc ?_ ?_ _) | omega | (simp; done) | (simp; omega))⟩
    · have n2 : (L == [73, 110, 102, 105, 110, 105, 116, 121]) = false := beq_eq_false_iff_ne.2 c2
      by_cases c3 : L = [45, 73, 110, 102, 105, 110, 105, 116, 121]
      · have HD : Hid (decP L = (17870283321406128128, 0, 0)) := Lib.hid (by unfold decP; rw [if_neg c1, if_neg c2, if_pos c3])
        rw [c3] at htl
        clear hLs hLe c1 c2 c3
        go_enter Tryd.func6, Tryd.ntmps6
        go_wp2_with fail
        go_ret3
        exact ⟨by unfold DecRet; rw [HD.out]; rfl, by repeat' (first | (with_reducible assumption) | (with_reducible exact Below.refl _ _) | (with_reducible refine below_drewN ?_ _) | (with_reducible refine Below.drew ?_) | (with_reducible refine Below.setCell ?_ ?_ _) | (with_reducible refine Below.alloc ?_ ?_ _) | omega | (simp; done) | (simp; omega))⟩
      · have n3 : (L == [45, 73, 110, 102, 105, 110, 105, 116, 121]) = false := beq_eq_false_iff_ne.2 c3
        have HD : Hid (decP L = if numOk L = false then (0, 0, 3) else if 300 < L.length then (0, 0, 10) else finR (hdIs L 45 45) (qOf L) (dOf L)) := Lib.hid (by unfold decP; rw [if_neg c1, if_neg c2, if_neg c3])
        have HLS := Lib.hid hLs
        clear c1 c2 c3 hLs hLe
        go_enter Tryd.func6, Tryd.ntmps6
        go_wp2_with fail
        with_reducible refine (LT.out _).mono ?_
        rintro e w' ⟨hr, rfl⟩
        clear LT htl n1 n2 n3
        rcases hr with ⟨hok, rfl⟩ | ⟨hno, ra, rb, rc, rfl⟩
        · obtain ⟨X0, hX0⟩ : ∃ X : ByteArray, (⟨(litCore (stripS L)).toArray⟩ : ByteArray) = X := ⟨_, rfl⟩
          obtain ⟨q, hq⟩ : ∃ q : Int, litE (litT (stripS L)) - (litBeh (stripS L) : Int) = q := ⟨_, rfl⟩
          obtain ⟨ng, hng⟩ : ∃ b, hdIs L 45 45 = b := ⟨_, rfl⟩
          have hX0l : X0.data.toList = litCore (stripS L) := by rw [← hX0]
          have hLl : L.length ≤ 400 := by rw [HLS.out]; exact hs
          have HDF : Hid (decP L = if 300 < L.length then (0, 0, 10) else finR ng q (Lib.trimLeftB X0.data.toList 48)) := Lib.hid (by
            have h := fin_lit hok hLl
            rw [hng, hq, ← hX0l] at h
            rw [HD.out, num_lit, hok, hng, h, if_neg (by decide)])
          have HAD : Hid (X0.data.toList.all isDg = true) := Lib.hid (by rw [hX0l]; exact ((lit_num (stripS L)).2 hok).2.2.2.1)
          have hq0 := litE_bd (litT (stripS L))
          have hb0 := litBeh_le (stripS L)
          have hc0 := litCore_le (stripS L)
          have hs0 := stripS_le L
          have hX0s : X0.size ≤ 400 := by
            have e : X0.data.toList.length = X0.size := by simp
            rw [← e, hX0l]; omega
          obtain ⟨q0, q1⟩ : -100400 ≤ q ∧ q ≤ 100000 := by omega
          simp only [hX0, hq, hng]
          clear hX0 hq hng hX0l hLl hq0 hb0 hc0 hs0 hok HD
          by_cases h300 : 300 < s.size
          · have HDN : Hid (decP L = (0, 0, 10)) := Lib.hid (by rw [HDF.out, HLS.out, if_pos h300])
            go_wp2_with fail
            go_ret3
            exact ⟨by unfold DecRet; rw [HDN.out]; rfl, by repeat' (first | (with_reducible assumption) | (with_reducible exact Below.refl _ _) | (with_reducible refine below_drewN ?_ _) | (with_reducible refine Below.drew ?_) | (with_reducible refine Below.setCell ?_ ?_ _) | (with_reducible refine Below.alloc ?_ ?_ _) | omega | (simp; done) | (simp; omega))⟩
          · have HDN : Hid (decP L = finR ng q (Lib.trimLeftB X0.data.toList 48)) := Lib.hid (by rw [HDF.out, HLS.out, if_neg h300])
            clear HDF HLS
            go_upto_block 1 with fail
            go_cut [5] (fun x W => ∃ X : ByteArray, x = .string X ∧ X.size ≤ 400 ∧ Hid (X.data.toList = Lib.trimLeftB X0.data.toList 48) ∧ w = W)
            case first =>
              go_wp2_with fail
              go_loopw [5] (fun x W => ∃ X : ByteArray, x = .string X ∧ X.size ≤ 400 ∧ Hid (Lib.trimLeftB X.data.toList 48 = Lib.trimLeftB X0.data.toList 48) ∧ w = W) (fun x _ => szOf x)
              case atStart => exact ⟨X0, rfl, hX0s, Lib.hid rfl, rfl⟩
              case round =>
                obtain ⟨X, rfl, hXs, HX, rfl⟩ := hrel
                rcases two_ways X 48 48 with ⟨k0, k1⟩ | ⟨k0, k1, k2, k3⟩ | ⟨k0, k1, k2⟩ | ⟨k0, k1, k2, k3⟩
                · have HX3 : Hid (X.data.toList = Lib.trimLeftB X0.data.toList 48) := Lib.hid (by rw [← HX.out, trimL_stop k1])
                  clear k1
                  go_wp2_with fail
                  go_meet
                  exact ⟨X, rfl, hXs, HX3, rfl⟩
                · have HX3 : Hid (X.data.toList = Lib.trimLeftB X0.data.toList 48) := Lib.hid (by rw [← HX.out, trimL_stop k1])
                  clear k1
                  go_wp2_with fail
                  go_meet
                  exact ⟨X, rfl, hXs, HX3, rfl⟩
                · have HX2 : Hid (Lib.trimLeftB (X.extract 1 X.size).data.toList 48 = Lib.trimLeftB X0.data.toList 48) := Lib.hid (by
                    rw [ext_rest, ← HX.out]
                    cases hq : X.data.toList with
                    | nil => rfl
                    | cons y r =>
                      rw [hq] at k1
                      have k4 : ((y.toNat : Int) == 48 || (y.toNat : Int) == 48) = true := k1
                      rw [Bool.or_self, beq_iff_eq] at k4
                      have : y = 48 := UInt8.toNat_inj.1 (by show y.toNat = 48; omega)
                      subst this
                      rfl)
                  have hXe : (X.extract 1 X.size).size = X.size - 1 := by rw [ByteArray.size_extract]; omega
                  have HXE := Lib.hid hXe
                  have k0i : (1 : Int) ≤ (X.size : Int) := by omega
                  clear hXe k1
                  go_wp2_with fail
                  go_roundw
                  case rel => exact ⟨_, rfl, by rw [HXE.out]; omega, HX2, by first | rfl | trivial⟩
                  case measure => first | (show (X.extract 1 X.size).size < X.size; rw [HXE.out]; omega)
                · exfalso; rw [k2] at k3; exact absurd k3 (by decide)
            case rest =>
            obtain ⟨X, rfl, hXs, HX, rfl⟩ := hcut
            go_upto_block 3 with fail
            go_cut [5, 9] (fun x y W => ∃ (Y : ByteArray) (z : Nat), x = .string Y ∧ y = .int .i64 z ∧ Y.size + z = X.size ∧ Hid (Lib.trimRightB X.data.toList 48 = Y.data.toList) ∧ w = W)
            case first =>
              go_wp2_with fail
              go_loopw [5, 9] (fun x y W => ∃ (Y : ByteArray) (z : Nat), x = .string Y ∧ y = .int .i64 z ∧ Y.size + z = X.size ∧ Hid (X.data.toList = Y.data.toList ++ List.replicate z 48) ∧ w = W) (fun x _ _ => szOf x)
              case atStart => exact ⟨X, 0, rfl, rfl, Nat.add_zero _, Lib.hid (by simp), rfl⟩
              case round =>
                obtain ⟨Y, z, rfl, rfl, hYz, HY, rfl⟩ := hrel
                rcases Nat.eq_zero_or_pos Y.size with k0 | k0
                · have HT : Hid (Lib.trimRightB X.data.toList 48 = Y.data.toList) := Lib.hid (by
                    have hn : Y.data.toList = [] := List.eq_nil_of_length_eq_zero (show Y.data.toList.length = 0 by rw [← k0]; simp)
                    rw [HY.out, trimR_stop z (Or.inl hn)])
                  go_wp2_with fail
                  go_meet
                  exact ⟨Y, z, rfl, rfl, hYz, HT, rfl⟩
                · have hls := last_split Y k0
                  have hlt : Y.size - 1 < Y.size := by omega
                  obtain ⟨c, hc⟩ : ∃ c : UInt8, Y[Y.size - 1]'hlt = c := ⟨_, rfl⟩
                  have hls2 : Y.data.toList = (Y.extract 0 (Y.size - 1)).data.toList ++ [c] := by rw [← hc]; exact hls
                  have k0i : (1 : Int) ≤ (Y.size : Int) := by omega
                  have k0j : (0 : Int) < (Y.size : Int) := by omega
                  have hti : ((Y.size : Int) - 1).toNat = Y.size - 1 := by omega
                  have hle : (Y.size : Int) - 1 ≤ (Y.size : Int) := by omega
                  have hge : (0 : Int) ≤ (Y.size : Int) - 1 := by omega
                  have HL2 := Lib.hid hls2
                  have hes : (Y.extract 0 (Y.size - 1)).size = Y.size - 1 := by rw [ByteArray.size_extract]; omega
                  have HES := Lib.hid hes
                  clear hls hls2 hes
                  by_cases h48 : c = 48
                  · have hcb : ((c.toNat : Int) == 48) = true := by rw [h48]; rfl
                    have HY2 : Hid (X.data.toList = (Y.extract 0 (Y.size - 1)).data.toList ++ List.replicate (z + 1) 48) := Lib.hid (by
                      rw [HY.out, HL2.out, h48, List.replicate_succ, List.append_assoc]; rfl)
                    clear h48
                    go_wp2_with fail
                    go_roundw
                    case rel => exact ⟨_, z + 1, rfl, by go_num, by rw [HES.out]; omega, HY2, by first | rfl | trivial⟩
                    case measure => first | (show (Y.extract 0 (Y.size - 1)).size < Y.size; rw [HES.out]; omega)
                  · have hcb : ((c.toNat : Int) == 48) = false := beq_eq_false_iff_ne.2 (fun h => h48 (UInt8.toNat_inj.1 (by show c.toNat = 48; omega)))
                    have HT : Hid (Lib.trimRightB X.data.toList 48 = Y.data.toList) := Lib.hid (by
                      rw [HY.out, trimR_stop z (Or.inr ⟨_, c, HL2.out, h48⟩)])
                    clear h48
                    go_wp2_with fail
                    go_meet
                    exact ⟨Y, z, rfl, rfl, hYz, HT, rfl⟩
            case rest =>
            obtain ⟨Y, z, rfl, rfl, hYz, HY, rfl⟩ := hcut
            obtain ⟨em, hem⟩ : ∃ b, Y.toList.isEmpty = b := ⟨_, rfl⟩
            have HEM : Hid (em = decide (Y.size = 0)) := Lib.hid (by rw [← hem]; exact isEmpty_size Y)
            obtain ⟨l0, hl0⟩ : ∃ v, leastOf q X.size Y.size = v := ⟨_, rfl⟩
            obtain ⟨m0, hm0⟩ : ∃ v, mostOf q X.size Y.size = v := ⟨_, rfl⟩
            have hlb : -6176 ≤ l0 ∧ l0 ≤ 200000 := by rw [← hl0]; unfold leastOf; split <;> omega
            have hmb : -200000 ≤ m0 ∧ m0 ≤ 6111 := by rw [← hm0]; unfold mostOf; split <;> omega
            have HL0 := Lib.hid hl0
            have HM0 := Lib.hid hm0
            clear hl0 hm0
            have hYs : Y.size ≤ 400 := by omega
            have hzs : z ≤ 400 := by omega
            go_upto_if 65 with fail
            go_cut [10, 11] (fun x y W => x = .int .i64 l0 ∧ y = .int .i64 m0 ∧ w = W)
            case first =>
              have hE := HEM.out
              cases em
              · have k0 : ¬ Y.size = 0 := of_decide_eq_false hE.symm
                obtain rfl : l0 = max (-6176) (q + z - 34 + Y.size) := by rw [← HL0.out]; unfold leastOf; rw [if_neg k0]; omega
                obtain rfl : m0 = min 6111 (q + z) := by rw [← HM0.out]; unfold mostOf; rw [if_neg k0]; omega
                clear k0 hE
                go_wp2_with fail
                go_meet
                exact ⟨by first | rfl | (simp; done), by first | rfl | (simp; done), rfl⟩
              · have k0 : Y.size = 0 := of_decide_eq_true hE.symm
                obtain rfl : l0 = -6176 := by rw [← HL0.out]; unfold leastOf; rw [if_pos k0]
                obtain rfl : m0 = 6111 := by rw [← HM0.out]; unfold mostOf; rw [if_pos k0]
                clear k0 hE
                go_wp2_with fail
                go_meet
                exact ⟨rfl, rfl, rfl⟩
            case rest =>
            obtain ⟨rfl, rfl, rfl⟩ := hcut
            have HXL : Hid (X.data.toList.length = X.size) := Lib.hid (by simp)
            have HYL : Hid (Y.data.toList.length = Y.size) := Lib.hid (by simp)
            obtain ⟨g0, g1⟩ := hlb
            obtain ⟨g2, g3⟩ := hmb
            by_cases hfar : m0 < l0
            · have HF : Hid (decP L = (0, 0, 10)) := Lib.hid (by
                rw [HDN.out, ← HX.out]
                refine fin_far ?_
                unfold farOf
                rw [HY.out, HXL.out, HYL.out, HL0.out, HM0.out, decide_eq_true hfar, Bool.or_true])
              go_wp2_with fail
              go_ret3
              exact ⟨by unfold DecRet; rw [HF.out]; rfl, by repeat' (first | (with_reducible assumption) | (with_reducible exact Below.refl _ _) | (with_reducible refine below_drewN ?_ _) | (with_reducible refine Below.drew ?_) | (with_reducible refine Below.setCell ?_ ?_ _) | (with_reducible refine Below.alloc ?_ ?_ _) | omega | (simp; done) | (simp; omega))⟩
            · obtain ⟨x, hx⟩ : ∃ x, min (max q l0) m0 = x := ⟨_, rfl⟩
              have hx0 : -6176 ≤ x ∧ x ≤ 6111 := by omega
              obtain ⟨hx1, hx2⟩ := hx0
              have HX1 := Lib.hid hx
              have hv : ∃ v : Nat, cofV Y.data.toList (q + z - x) = (v : Int) ∧ v < 10000000000000000000000000000000000 ∧ (em = false → parseOf (Y.data.toList ++ List.replicate (q + z - x).toNat 48) = some v ∧ Y.size + (q + z - x).toNat ≤ 34) ∧ (em = true → v = 0) := by
                by_cases k0 : Y.size = 0
                · have hn : Y.data.toList = [] := List.eq_nil_of_length_eq_zero (by rw [HYL.out]; exact k0)
                  refine ⟨0, ?_, by decide, fun h => ?_, fun _ => rfl⟩
                  · unfold cofV coefL; rw [if_pos hn, par48]; rfl
                  · rw [HEM.out, decide_eq_true k0] at h; cases h
                · have hn : Y.data.toList ≠ [] := fun h => k0 (by rw [← HYL.out, h]; rfl)
                  have hb : 0 ≤ q + z - x ∧ (Y.size : Int) + (q + z - x) ≤ 34 := by
                    have e1 := HL0.out
                    have e2 := HM0.out
                    unfold leastOf at e1
                    unfold mostOf at e2
                    rw [if_neg k0] at e1 e2
                    omega
                  obtain ⟨v, hv1, hv2⟩ := coef_some HAD.out (core := Y.data.toList) (by rw [← HX.out]; exact HY.out) hn (z := (q + z - x).toNat) (by rw [HYL.out]; omega)
                  refine ⟨v, ?_, hv2, fun _ => ⟨hv1, by omega⟩, fun h => ?_⟩
                  · unfold cofV coefL; rw [if_neg hn, hv1]; rfl
                  · rw [HEM.out, decide_eq_false k0] at h; cases h
              obtain ⟨v, hv0, hv1, hv2, hv3⟩ := hv
              have HFR : Hid (decP L = (jHigh ng ((v : Int) / 18446744073709551616) ((v : Int) % 18446744073709551616) x, jLow ((v : Int) / 18446744073709551616) ((v : Int) % 18446744073709551616) x, 0)) := Lib.hid (by
                rw [HDN.out, ← HX.out]
                refine fin_ok HY.out ?_ ?_ ?_
                · unfold farOf
                  rw [HXL.out, HYL.out, HL0.out, HM0.out, decide_eq_false hfar, Bool.or_false]
                  by_cases k0 : Y.size = 0
                  · rw [k0]; rfl
                  · cases hem2 : em
                    · exact decide_eq_false (by have := (hv2 hem2).2; omega)
                    · have := HEM.out; rw [hem2, decide_eq_false k0] at this; cases this
                · unfold expOf; rw [HXL.out, HYL.out, HL0.out, HM0.out]; exact HX1.out
                · rw [HXL.out, HYL.out, ← hv0]
                  congr 1
                  omega)
              obtain ⟨b0, b1, b2, b3⟩ := wdiv_bd v (lt_big hv1)
              have hjk : jOk ((v : Int) / 18446744073709551616) ((v : Int) % 18446744073709551616) x = true := jOk_true _ _ _ (by rw [wV_div (by omega)]; omega) (by omega) (by omega)
              have JN0 := fun (w : World) => refJoin_any ng ((v : Int) / 18446744073709551616) ((v : Int) % 18446744073709551616) x b0 b1 b2 b3 (by omega) (by omega) w
              rw [hjk] at JN0
              have NG0 := fun (h : em = false) (w : World) => noughts_any (q + z - x) (by have := (hv2 h).2; omega) w
              obtain ⟨O, hO⟩ : ∃ O : ByteArray, (⟨(List.replicate (q + z - x).toNat (48 : UInt8)).toArray⟩ : ByteArray) = O := ⟨_, rfl⟩
              simp only [hO] at NG0
              have hOl : O.data.toList = List.replicate (q + z - x).toNat 48 := by rw [← hO]
              have hOs : O.size = (q + z - x).toNat := by
                have e : O.data.toList.length = O.size := by simp
                rw [← e, hOl, List.length_replicate]
              have hYO : em = false → Y.size + O.size ≤ 34 := fun h => by rw [hOs]; exact (hv2 h).2
              have PG : Hid (em = false → ∀ w, Calls Tryd.prog 15 #[.string (Y ++ O)] w fun e w' => e = .returned (.tuple #[.agg #[.int .u64 ((v : Int) / 18446744073709551616), .int .u64 ((v : Int) % 18446744073709551616)], .bool true]) ∧ Below w.heap.size w w') := Lib.hid (fun h w => by
                have h1 := refParse_any (Y ++ O) (by have := hYO h; rw [ByteArray.size_append]; unfold maxLen; omega) w
                rw [ByteArray.data_append, Array.toList_append, hOl, (hv2 h).1] at h1
                exact h1)
              obtain ⟨HH, hHH⟩ : ∃ H : Int, (v : Int) / 18446744073709551616 = H := ⟨_, rfl⟩
              obtain ⟨LL, hLL⟩ : ∃ H : Int, (v : Int) % 18446744073709551616 = H := ⟨_, rfl⟩
              have hz0 : em = true → HH = 0 ∧ LL = 0 := fun h => by rw [← hHH, ← hLL, hv3 h]; exact ⟨rfl, rfl⟩
              rw [hHH, hLL] at JN0 HFR PG
              have HZ0 := Lib.hid hz0
              have HYO := Lib.hid hYO
              have JN := Lib.hid JN0
              have NG := Lib.hid NG0
              clear hv0 hv1 hv2 hv3 b0 b1 b2 b3 hjk JN0 NG0 hO hOl hOs hYO hHH hLL hz0 HL0 HM0 HDN HXL HYL HX1
              go_upto_if 90 with fail
              have F0 := Lib.hid (W2.new w 31 0 0)
              have B0 : Below w.heap.size w (w.alloc (.cells #[.int .u64 0, .int .u64 0] 31)) := (Below.refl _ _).alloc (Nat.le_refl _) _
              go_cut [8] (fun o W => o = .bool true ∧ Hid (W2 W w.heap.size HH LL) ∧ Below w.heap.size w W)
              case first =>
                cases em
                · have NG1 := Lib.hid (NG.out rfl)
                  have PG1 := Lib.hid (PG.out rfl)
                  have hYO := HYO.out rfl
                  have hYO2 : Y.size + O.size ≤ 1000 := by omega
                  clear hYO NG PG HZ0 HYO
                  go_wp2_with fail
                  with_reducible refine (NG1.out _).mono ?_
                  rintro e w3 ⟨rfl, hb3⟩
                  have F3 := Lib.hid (F0.out.beyond hb3)
                  have hw3 : Below w.heap.size w w3 := B0.trans (hb3.mono B0.size)
                  have hz3 := hw3.size
                  clear hb3
                  go_wp2_with fail
                  with_reducible refine (PG1.out _).mono ?_
                  rintro e w4 ⟨rfl, hb4⟩
                  have F4 := F3.out.beyond hb4
                  have hw4 : Below w.heap.size w w4 := hw3.trans (hb4.mono hz3)
                  have hz4 := hw4.size
                  have F5 := Lib.hid (F4.setAll HH LL)
                  have hw5 := (hw4.setCell (p := ⟨w.heap.size, 0, none⟩) (Nat.le_refl _) (.int .u64 HH)).setCell (p := ⟨w.heap.size, 1, none⟩) (Nat.le_refl _) (.int .u64 LL)
                  obtain ⟨c0, c1, cz, cl⟩ := F4
                  have cz0 := cz 0
                  have cz1 := cz 1
                  clear hb4 cz
                  go_wp2_with fail
                  go_meet
                  exact ⟨rfl, F5, hw5⟩
                · obtain ⟨rfl, rfl⟩ := HZ0.out rfl
                  clear NG PG HZ0 HYO
                  go_wp2_with fail
                  go_meet
                  exact ⟨rfl, F0, B0⟩
              case rest =>
              obtain ⟨rfl, F1, B1⟩ := hcut
              have hF := F1.out
              obtain ⟨c0, c1, cz, cl⟩ := hF
              have hz1 := B1.size
              clear NG PG HZ0 HYO F0 B0
              go_wp2_with fail
              with_reducible refine (JN.out _).mono ?_
              rintro e w6 ⟨rfl, hb6⟩
              have hw6 : Below w.heap.size w w6 := B1.trans (hb6.mono hz1)
              clear hb6
              go_wp2_with fail
              go_ret3
              exact ⟨by unfold DecRet; rw [HFR.out]; rfl, hw6⟩
        · have HDN : Hid (decP L = (0, 0, 3)) := Lib.hid (by rw [HD.out, num_lit, hno, if_pos rfl])
          clear hno
          go_wp2_with fail
          go_ret3
          exact ⟨by unfold DecRet; rw [HDN.out]; rfl, by repeat' (first | (with_reducible assumption) | (with_reducible exact Below.refl _ _) | (with_reducible refine below_drewN ?_ _) | (with_reducible refine Below.drew ?_) | (with_reducible refine Below.setCell ?_ ?_ _) | (with_reducible refine Below.alloc ?_ ?_ _) | omega | (simp; done) | (simp; omega))⟩
end Go.Proofs.YtiagngnpbpblaaaDoor
