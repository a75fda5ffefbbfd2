/- Parts of the proof of TopLooks: U16. No condition. -/
import Derived.Test.YtihnfhhopldllaaGreatDoorJ1
import Derived.Test.YtihnfhhopldllaaGreatDoorJ19
import Derived.Test.YtihnfhhopldllaaGreatDoorJ9
namespace Go.Proofs.YtihnfhhopldllaaGreatDoor
set_option linter.unusedSimpArgs false
set_option linter.unusedVariables false
set_option maxHeartbeats 6400000
set_option maxRecDepth 100000
section
open Go.RowKit
def RK (l : KL) (K : Nat) : KL := (l.take K).map (fun x => (([] : List UInt8), x.2)) ++ l.drop K
theorem rk_at {l : KL} {K : Nat} {x : List UInt8 × Ro} (h : l[K]? = some x) : (RK l K)[K]? = some x := by
  have hl := (List.getElem?_eq_some_iff.1 h).1
  unfold RK
  rw [List.getElem?_append_right (by simp; omega)]
  simp [Nat.min_eq_left (Nat.le_of_lt hl), h]
theorem rk_set {l : KL} {K : Nat} {nm : List UInt8} {x : Ro} (h : l[K]? = some (nm, x)) : (RK l K).set K ([], x) = RK l (K + 1) := by
  have hl := (List.getElem?_eq_some_iff.1 h).1
  unfold RK
  rw [List.set_append_right _ _ (by simp; omega), List.take_add_one, h]
  simp only [List.length_map, List.length_take, Nat.min_eq_left (Nat.le_of_lt hl), Nat.sub_self, Option.toList, List.map_append, List.map_cons, List.map_nil, List.append_assoc]
  congr 1
  rw [List.drop_eq_getElem_cons hl]
  rfl
theorem rk_all {l : KL} {K : Nat} (h : l.length ≤ K) : RK l K = l.map fun x => ([], x.2) := by
  unfold RK
  rw [List.take_of_length_le h, List.drop_eq_nil_of_le h, List.append_nil]
theorem bd_head {T : TypeId} {w : World} {base d m c : Nat} {l : KL} {vd : Option Addr} (h : Bd .J T w base d l (.slice vd m c)) (hm : 0 < m) : ∃ g, vd = some ⟨g, 0, none⟩ ∧ base ≤ g := by
  obtain ⟨ss, h1, h2, h3⟩ := h
  rcases h2.2 with ⟨h, _⟩ | ⟨g, cap, cur, hv, hb, _⟩
  · injection h with _ h _
    omega
  · injection hv with e1 _ _
    exact ⟨g, e1, hb⟩
theorem cvalue_4 (k d : Nat) (i : Ro) (l : KL) (hl : l.length ≤ 20) (Q : Nat → Prop) (bd : Option Addr) (bc : Nat) (ad : Option Addr) (m c : Nat) (hm : l.length = m) (w : World) (hk : Kd .V Q w (k + 1) l (.slice ad m c))
    (hp : ∀ w, Kd .V Q w (k + 1) l (.slice ad m c) → Calls Tryz.prog 61 #[.slice ad m c] w fun e w' => (∃ V, e = .returned (.agg #[.int .i64 7, .string { data := #[] }, V]) ∧ Bd .J 166 w' w.heap.size d (l.map fun x => (x.1, docJ i k x.2)) V) ∧ Below w.heap.size w w') :
    Calls Tryz.prog 106 #[.agg #[.int .i64 4, .int .u64 0, .int .u64 0, .int .u64 0, .string { data := #[] }, .string { data := #[] }, .int .i64 0, .slice bd 0 bc, .slice ad m c]] w fun e w' => (∃ jv, e = .returned jv ∧ Is .J (fun b => w.heap.size ≤ b) w' (d + 2) (if reg 0 l then jA (l.map fun x => ([], docJ i k x.2)) else jO [(nArr, jO (l.map fun x => (x.1, docJ i k x.2)))]) jv) ∧ Below w.heap.size w w' := by
  have HK := Lib.hid hk
  have HP := Lib.hid hp
  have HM := Lib.hid hm
  have hm20 : m ≤ 20 := by omega
  have HR := fun w h => regular_any k l hl Q ad m c hm w h
  cases hr : reg 0 l
  · rw [hr] at HR
    have HR := Lib.hid HR
    show Calls _ _ _ _ (fun e w' => (∃ jv, e = .returned jv ∧ Is .J (fun b => w.heap.size ≤ b) w' (d + 2) (jO [(nArr, jO (l.map fun x => (x.1, docJ i k x.2)))]) jv) ∧ Below w.heap.size w w')
    clear hk hp hm hl hr
    go_enter Tryz.func106, Tryz.ntmps106
    go_wp2_with fail
    with_reducible refine (HP.out _ ?hpk2).mono ?_
    case hpk2 => exact HK.out.beyond bel
    rintro e w2 ⟨⟨V, rfl, hV⟩, hb2⟩
    obtain ⟨c2_0, f2_0⟩ := cf hb2 w.heap.size 0 (.int .i64 4)
    obtain ⟨c2_1, f2_1⟩ := cf hb2 w.heap.size 1 (.int .u64 0)
    obtain ⟨c2_2, f2_2⟩ := cf hb2 w.heap.size 2 (.int .u64 0)
    obtain ⟨c2_3, f2_3⟩ := cf hb2 w.heap.size 3 (.int .u64 0)
    obtain ⟨c2_4, f2_4⟩ := cf hb2 w.heap.size 4 (.string { data := #[] })
    obtain ⟨c2_5, f2_5⟩ := cf hb2 w.heap.size 5 (.string { data := #[] })
    obtain ⟨c2_6, f2_6⟩ := cf hb2 w.heap.size 6 (.int .i64 0)
    obtain ⟨c2_7, f2_7⟩ := cf hb2 w.heap.size 7 (.slice bd 0 bc)
    obtain ⟨c2_8, f2_8⟩ := cf hb2 w.heap.size 8 (.slice ad m c)
    obtain ⟨c2_9, f2_9⟩ := cf hb2 (w.heap.size + 1) 0 (.int .i64 0)
    obtain ⟨c2_10, f2_10⟩ := cf hb2 (w.heap.size + 1) 1 (.string { data := #[] })
    obtain ⟨c2_11, f2_11⟩ := cf hb2 (w.heap.size + 1) 2 (.slice none 0 0)
    have hl2_0 := ltB hb2 w.heap.size
    have hl2_1 := ltB hb2 (w.heap.size + 1)
    have hw2 := bwB hb2 w.heap.size w
    have hz2 := hw2.size
    clear hb2
    obtain ⟨vd, vc, hVe⟩ : ∃ vd vc, V = .slice vd m vc := by
      obtain ⟨ad', c', hv⟩ := hV.done.slice
      refine ⟨ad', c', ?_⟩
      rw [hv, List.length_map, HM.out]
    subst hVe
    replace hV := Lib.hid (hV.low (base' := w.heap.size + 2) (by simp))
    have hJ : Is .J (fun b => w.heap.size + 2 ≤ b) w2 (d + 1) (jO (l.map fun x => (x.1, docJ i k x.2))) (.agg #[.int .i64 7, .string { data := #[] }, .slice vd m vc]) := ⟨.slice none 0 0, _, rfl, True.intro, hV.out.done⟩
    replace hJ := Lib.hid hJ
    go_wp2_with fail
    with_reducible refine (HR.out _ ?hpr4x1).mono ?_
    case hpr4x1 => exact HK.out.beyond bel
    rintro e w3 ⟨rfl, hb3⟩
    obtain ⟨c3_0, f3_0⟩ := cf hb3 w.heap.size 0 (.int .i64 4)
    obtain ⟨c3_1, f3_1⟩ := cf hb3 w.heap.size 1 (.int .u64 0)
    obtain ⟨c3_2, f3_2⟩ := cf hb3 w.heap.size 2 (.int .u64 0)
    obtain ⟨c3_3, f3_3⟩ := cf hb3 w.heap.size 3 (.int .u64 0)
    obtain ⟨c3_4, f3_4⟩ := cf hb3 w.heap.size 4 (.string { data := #[] })
    obtain ⟨c3_5, f3_5⟩ := cf hb3 w.heap.size 5 (.string { data := #[] })
    obtain ⟨c3_6, f3_6⟩ := cf hb3 w.heap.size 6 (.int .i64 0)
    obtain ⟨c3_7, f3_7⟩ := cf hb3 w.heap.size 7 (.slice bd 0 bc)
    obtain ⟨c3_8, f3_8⟩ := cf hb3 w.heap.size 8 (.slice ad m c)
    obtain ⟨c3_9, f3_9⟩ := cf hb3 (w.heap.size + 1) 0 (.int .i64 0)
    obtain ⟨c3_10, f3_10⟩ := cf hb3 (w.heap.size + 1) 1 (.string { data := #[] })
    obtain ⟨c3_11, f3_11⟩ := cf hb3 (w.heap.size + 1) 2 (.slice none 0 0)
    obtain ⟨c3_12, f3_12⟩ := cf hb3 w2.heap.size 0 (.int .i64 7)
    obtain ⟨c3_13, f3_13⟩ := cf hb3 w2.heap.size 1 (.string { data := #[] })
    obtain ⟨c3_14, f3_14⟩ := cf hb3 w2.heap.size 2 (.slice vd m vc)
    have hl3_0 := ltB hb3 w.heap.size
    have hl3_1 := ltB hb3 (w.heap.size + 1)
    have hl3_2 := ltB hb3 w2.heap.size
    have hw3 := bwB hb3 w.heap.size w
    have hz3 := hw3.size
    have hx3 := bwB hb3 w2.heap.size w2
    clear hb3
    go_wp2_with fail
    have hJ3 := Lib.hid (hJ.out.beyond hx3)
    with_reducible refine (cone_nArr _ (d + 1) _ (w.heap.size + 2) _ hJ3.out (by omega)).mono ?_
    rintro e w4 ⟨⟨jv, rfl, hj2⟩, hb4⟩
    obtain ⟨c4_0, f4_0⟩ := cf hb4 w.heap.size 0 (.int .i64 4)
    obtain ⟨c4_1, f4_1⟩ := cf hb4 w.heap.size 1 (.int .u64 0)
    obtain ⟨c4_2, f4_2⟩ := cf hb4 w.heap.size 2 (.int .u64 0)
    obtain ⟨c4_3, f4_3⟩ := cf hb4 w.heap.size 3 (.int .u64 0)
    obtain ⟨c4_4, f4_4⟩ := cf hb4 w.heap.size 4 (.string { data := #[] })
    obtain ⟨c4_5, f4_5⟩ := cf hb4 w.heap.size 5 (.string { data := #[] })
    obtain ⟨c4_6, f4_6⟩ := cf hb4 w.heap.size 6 (.int .i64 0)
    obtain ⟨c4_7, f4_7⟩ := cf hb4 w.heap.size 7 (.slice bd 0 bc)
    obtain ⟨c4_8, f4_8⟩ := cf hb4 w.heap.size 8 (.slice ad m c)
    obtain ⟨c4_9, f4_9⟩ := cf hb4 (w.heap.size + 1) 0 (.int .i64 0)
    obtain ⟨c4_10, f4_10⟩ := cf hb4 (w.heap.size + 1) 1 (.string { data := #[] })
    obtain ⟨c4_11, f4_11⟩ := cf hb4 (w.heap.size + 1) 2 (.slice none 0 0)
    have hl4_0 := ltB hb4 w.heap.size
    have hl4_1 := ltB hb4 (w.heap.size + 1)
    have hw4 := bwB hb4 w.heap.size w
    have hz4 := hw4.size
    clear hb4
    obtain ⟨jad2, jc2, hje⟩ := isJ_form hj2
    have hje2 : jv = .agg #[.int .i64 7, .string { data := #[] }, .slice jad2 1 jc2] := hje
    clear hje
    subst hje2
    go_wp2_with fail
    refine bodyPost_ret (v := .agg #[.int .i64 7, .string { data := #[] }, .slice jad2 1 jc2]) (by simp (maxDischargeDepth := 3) [results, Tryz.results106, go_sem, c4_9, c4_10, c4_11, f4_9, f4_10, f4_11]) rfl ?_
    exact ⟨⟨_, rfl, (((hj2.keeps (Keeps.setCell (p := ⟨w.heap.size + 1, 0, none⟩) (by show ¬ _ ≤ w.heap.size + 1; omega) _)).keeps (Keeps.setCell (p := ⟨w.heap.size + 1, 1, none⟩) (by show ¬ _ ≤ w.heap.size + 1; omega) _)).keeps (Keeps.setCell (p := ⟨w.heap.size + 1, 2, none⟩) (by show ¬ _ ≤ w.heap.size + 1; omega) _)).mono (fun b hb _ => by omega)⟩, bel⟩
  · rw [hr] at HR
    have HR := Lib.hid HR
    show Calls _ _ _ _ (fun e w' => (∃ jv, e = .returned jv ∧ Is .J (fun b => w.heap.size ≤ b) w' (d + 2) (jA (l.map fun x => ([], docJ i k x.2))) jv) ∧ Below w.heap.size w w')
    clear hk hp hm hl hr
    go_enter Tryz.func106, Tryz.ntmps106
    go_wp2_with fail
    with_reducible refine (HP.out _ ?hpk3).mono ?_
    case hpk3 => exact HK.out.beyond bel
    rintro e w2 ⟨⟨V, rfl, hV⟩, hb2⟩
    obtain ⟨c2_0, f2_0⟩ := cf hb2 w.heap.size 0 (.int .i64 4)
    obtain ⟨c2_1, f2_1⟩ := cf hb2 w.heap.size 1 (.int .u64 0)
    obtain ⟨c2_2, f2_2⟩ := cf hb2 w.heap.size 2 (.int .u64 0)
    obtain ⟨c2_3, f2_3⟩ := cf hb2 w.heap.size 3 (.int .u64 0)
    obtain ⟨c2_4, f2_4⟩ := cf hb2 w.heap.size 4 (.string { data := #[] })
    obtain ⟨c2_5, f2_5⟩ := cf hb2 w.heap.size 5 (.string { data := #[] })
    obtain ⟨c2_6, f2_6⟩ := cf hb2 w.heap.size 6 (.int .i64 0)
    obtain ⟨c2_7, f2_7⟩ := cf hb2 w.heap.size 7 (.slice bd 0 bc)
    obtain ⟨c2_8, f2_8⟩ := cf hb2 w.heap.size 8 (.slice ad m c)
    obtain ⟨c2_9, f2_9⟩ := cf hb2 (w.heap.size + 1) 0 (.int .i64 0)
    obtain ⟨c2_10, f2_10⟩ := cf hb2 (w.heap.size + 1) 1 (.string { data := #[] })
    obtain ⟨c2_11, f2_11⟩ := cf hb2 (w.heap.size + 1) 2 (.slice none 0 0)
    have hl2_0 := ltB hb2 w.heap.size
    have hl2_1 := ltB hb2 (w.heap.size + 1)
    have hw2 := bwB hb2 w.heap.size w
    have hz2 := hw2.size
    clear hb2
    obtain ⟨vd, vc, hVe⟩ : ∃ vd vc, V = .slice vd m vc := by
      obtain ⟨ad', c', hv⟩ := hV.done.slice
      refine ⟨ad', c', ?_⟩
      rw [hv, List.length_map, HM.out]
    subst hVe
    replace hV := Lib.hid (hV.low (base' := w.heap.size + 2) (by simp))
    have hJ : Is .J (fun b => w.heap.size + 2 ≤ b) w2 (d + 1) (jO (l.map fun x => (x.1, docJ i k x.2))) (.agg #[.int .i64 7, .string { data := #[] }, .slice vd m vc]) := ⟨.slice none 0 0, _, rfl, True.intro, hV.out.done⟩
    replace hJ := Lib.hid hJ
    go_wp2_with fail
    have HVlt := Lib.hid hV.out.lt
    with_reducible refine (HR.out _ ?hpr5x1).mono ?_
    case hpr5x1 => exact HK.out.beyond bel
    rintro e w3 ⟨rfl, hb3⟩
    obtain ⟨c3_0, f3_0⟩ := cf hb3 w.heap.size 0 (.int .i64 4)
    obtain ⟨c3_1, f3_1⟩ := cf hb3 w.heap.size 1 (.int .u64 0)
    obtain ⟨c3_2, f3_2⟩ := cf hb3 w.heap.size 2 (.int .u64 0)
    obtain ⟨c3_3, f3_3⟩ := cf hb3 w.heap.size 3 (.int .u64 0)
    obtain ⟨c3_4, f3_4⟩ := cf hb3 w.heap.size 4 (.string { data := #[] })
    obtain ⟨c3_5, f3_5⟩ := cf hb3 w.heap.size 5 (.string { data := #[] })
    obtain ⟨c3_6, f3_6⟩ := cf hb3 w.heap.size 6 (.int .i64 0)
    obtain ⟨c3_7, f3_7⟩ := cf hb3 w.heap.size 7 (.slice bd 0 bc)
    obtain ⟨c3_8, f3_8⟩ := cf hb3 w.heap.size 8 (.slice ad m c)
    obtain ⟨c3_9, f3_9⟩ := cf hb3 (w.heap.size + 1) 0 (.int .i64 0)
    obtain ⟨c3_10, f3_10⟩ := cf hb3 (w.heap.size + 1) 1 (.string { data := #[] })
    obtain ⟨c3_11, f3_11⟩ := cf hb3 (w.heap.size + 1) 2 (.slice none 0 0)
    obtain ⟨c3_12, f3_12⟩ := cf hb3 w2.heap.size 0 (.int .i64 7)
    obtain ⟨c3_13, f3_13⟩ := cf hb3 w2.heap.size 1 (.string { data := #[] })
    obtain ⟨c3_14, f3_14⟩ := cf hb3 w2.heap.size 2 (.slice vd m vc)
    have hl3_0 := ltB hb3 w.heap.size
    have hl3_1 := ltB hb3 (w.heap.size + 1)
    have hl3_2 := ltB hb3 w2.heap.size
    have hw3 := bwB hb3 w.heap.size w
    have hz3 := hw3.size
    have hx3 := bwB hb3 w2.heap.size w2
    clear hb3
    go_wp2_with fail
    have hV3 := Lib.hid (hV.out.beyond hx3)
    have hjb : w.heap.size + 2 ≤ w2.heap.size := by have := hz2; omega
    have hne : w2.heap.size ≠ w.heap.size + 1 := by omega
    have hlj := hl3_2
    go_loopw [45] (fun x wr => ∃ K, K ≤ m ∧ x = .int .i64 K ∧ wr.cell? ⟨w2.heap.size, 0, none⟩ = some (.int .i64 6) ∧ wr.cell? ⟨w2.heap.size, 1, none⟩ = some (.string { data := #[] }) ∧ wr.cell? ⟨w2.heap.size, 2, none⟩ = some (.slice vd m vc) ∧ wr.cell? ⟨w.heap.size + 1, 0, none⟩ = some (.int .i64 0) ∧ wr.cell? ⟨w.heap.size + 1, 1, none⟩ = some (.string { data := #[] }) ∧ wr.cell? ⟨w.heap.size + 1, 2, none⟩ = some (.slice none 0 0) ∧ wr.frozen? ⟨w.heap.size + 1, 0, none⟩ = false ∧ wr.frozen? ⟨w.heap.size + 1, 1, none⟩ = false ∧ wr.frozen? ⟨w.heap.size + 1, 2, none⟩ = false ∧ wr.frozen? ⟨w2.heap.size, 0, none⟩ = false ∧ w2.heap.size < wr.heap.size ∧ Hid (Bd .J 166 wr (w.heap.size + 2) d (RK (l.map fun x => (x.1, docJ i k x.2)) K) (.slice vd m vc)) ∧ Hid (Below w.heap.size w wr)) (fun x _ => m - (intOf x).toNat)
    case atStart =>
      refine ⟨0, Nat.zero_le _, rfl, ?_, ?_, ?_, ?_, ?_, ?_, ?_, ?_, ?_, ?_, ?_, Lib.hid ?_, Lib.hid ?_⟩
      case refine_12 => exact hV.out.beyond (hx3.setCell (Nat.le_refl _) _)
      case refine_13 => exact hw3.setCell (by simp; omega) _
      all_goals first | (simp [go_sem, *]; done) | (simp; omega)
    case round =>
      obtain ⟨K, hK, rfl, q0, q1, q2, q3, q4, q5, q6, q7, q8, qf, hlw, HD, HW⟩ := hrel
      have hz0 : w.heap.size + 1 < wr.heap.size := by omega
      by_cases hKm : K < m
      · obtain ⟨⟨kn, kx⟩, hkx⟩ : ∃ x, (l.map fun x => (x.1, docJ i k x.2))[K]? = some x := ⟨_, List.getElem?_eq_getElem (by rw [List.length_map, HM.out]; exact hKm)⟩
        have hat := rk_at hkx
        have hset := rk_set hkx
        obtain ⟨g, hg, hgb⟩ := bd_head HD.out (by omega)
        subst hg
        obtain ⟨hg1, hg2⟩ := HVlt.out g rfl
        obtain ⟨n1, n2⟩ := bd_free HD.out hat
        have e4 : 4 * K = K * 4 := Nat.mul_comm _ _
        rw [e4] at n1 n2
        have HD2 : Hid (Bd .J 166 (wr.setCell ⟨g, K * 4, none⟩ (.string { data := #[] })) (w.heap.size + 2) d (RK (l.map fun x => (x.1, docJ i k x.2)) (K + 1)) (.slice (some ⟨g, 0, none⟩) m vc)) := Lib.hid (by
          have h := bd_rename HD.out hat []
          rw [hset, e4] at h
          exact h)
        have d1 : g ≠ w2.heap.size := by omega
        have d2 : g ≠ w.heap.size + 1 := by omega
        have d3 : w2.heap.size ≠ g := fun e => d1 e.symm
        have d4 : w.heap.size + 1 ≠ g := fun e => d2 e.symm
        clear hat hset hkx e4
        have HKm := Lib.hid hKm
        go_wp2_with fail
        go_roundw
        case rel =>
          have hKm := HKm.out
          refine ⟨K + 1, by omega, by go_num, ?_, ?_, ?_, ?_, ?_, ?_, ?_, ?_, ?_, ?_, ?_, HD2, Lib.hid (HW.out.setCell (by show w.heap.size ≤ g; omega) _)⟩
          all_goals first | (simp [go_sem, *]; done) | (simp; omega)
        case measure => have hKm := HKm.out; simp [intOf]; omega
      · have hKe : K = m := by omega
        subst hKe
        have hwr := HW.out
        have HJ : Hid (Is .J (fun b => w.heap.size + 2 ≤ b) wr (d + 2) (jA (l.map fun x => ([], docJ i k x.2))) (.agg #[.int .i64 6, .string { data := #[] }, .slice vd K vc])) := Lib.hid (by
          have h := HD.out.done
          rw [rk_all (by rw [List.length_map, HM.out]; exact Nat.le_refl _), List.map_map] at h
          exact ⟨.slice none 0 0, _, rfl, True.intro, Kd.more (by omega) h⟩)
        go_wp2_with fail
        refine bodyPost_ret (v := .agg #[.int .i64 6, .string { data := #[] }, .slice vd K vc]) (by simp (maxDischargeDepth := 3) [results, Tryz.results106, go_sem, q0, q1, q2, q3, q4, q5, q6, q7, q8]) rfl ?_
        exact ⟨⟨_, rfl, (((HJ.out.keeps (Keeps.setCell (p := ⟨w.heap.size + 1, 0, none⟩) (by show ¬ _ ≤ w.heap.size + 1; omega) _)).keeps (Keeps.setCell (p := ⟨w.heap.size + 1, 1, none⟩) (by show ¬ _ ≤ w.heap.size + 1; omega) _)).keeps (Keeps.setCell (p := ⟨w.heap.size + 1, 2, none⟩) (by show ¬ _ ≤ w.heap.size + 1; omega) _)).mono (fun b hb _ => by omega)⟩, bel⟩
theorem xvalue_4 (k d : Nat) (i : Ro) (l : KL) (hl : l.length ≤ 20) (Q : Nat → Prop) (bd : Option Addr) (bc : Nat) (ad : Option Addr) (m c : Nat) (hm : l.length = m) (w : World) (hk : Kd .V Q w (k + 1) l (.slice ad m c))
    (hp : ∀ w, Kd .V Q w (k + 1) l (.slice ad m c) → Calls Tryz.prog 64 #[.slice ad m c] w fun e w' => (∃ V, e = .returned (.agg #[.int .i64 7, .string { data := #[] }, V]) ∧ Bd .J 166 w' w.heap.size d (l.map fun x => (x.1, docJ i k x.2)) V) ∧ Below w.heap.size w w') :
    Calls Tryz.prog 109 #[.agg #[.int .i64 4, .int .u64 0, .int .u64 0, .int .u64 0, .string { data := #[] }, .string { data := #[] }, .int .i64 0, .slice bd 0 bc, .slice ad m c]] w fun e w' => (∃ jv, e = .returned jv ∧ Is .J (fun b => w.heap.size ≤ b) w' (d + 2) (if reg 0 l then jA (l.map fun x => ([], docJ i k x.2)) else jO [(nArr, jO (l.map fun x => (x.1, docJ i k x.2)))]) jv) ∧ Below w.heap.size w w' := by
  have HK := Lib.hid hk
  have HP := Lib.hid hp
  have HM := Lib.hid hm
  have hm20 : m ≤ 20 := by omega
  have HR := fun w h => regular_any k l hl Q ad m c hm w h
  cases hr : reg 0 l
  · rw [hr] at HR
    have HR := Lib.hid HR
    show Calls _ _ _ _ (fun e w' => (∃ jv, e = .returned jv ∧ Is .J (fun b => w.heap.size ≤ b) w' (d + 2) (jO [(nArr, jO (l.map fun x => (x.1, docJ i k x.2)))]) jv) ∧ Below w.heap.size w w')
    clear hk hp hm hl hr
    go_enter Tryz.func109, Tryz.ntmps109
    go_wp2_with fail
    with_reducible refine (HP.out _ ?hpk7).mono ?_
    case hpk7 => exact HK.out.beyond bel
    rintro e w2 ⟨⟨V, rfl, hV⟩, hb2⟩
    obtain ⟨c2_0, f2_0⟩ := cf hb2 w.heap.size 0 (.int .i64 4)
    obtain ⟨c2_1, f2_1⟩ := cf hb2 w.heap.size 1 (.int .u64 0)
    obtain ⟨c2_2, f2_2⟩ := cf hb2 w.heap.size 2 (.int .u64 0)
    obtain ⟨c2_3, f2_3⟩ := cf hb2 w.heap.size 3 (.int .u64 0)
    obtain ⟨c2_4, f2_4⟩ := cf hb2 w.heap.size 4 (.string { data := #[] })
    obtain ⟨c2_5, f2_5⟩ := cf hb2 w.heap.size 5 (.string { data := #[] })
    obtain ⟨c2_6, f2_6⟩ := cf hb2 w.heap.size 6 (.int .i64 0)
    obtain ⟨c2_7, f2_7⟩ := cf hb2 w.heap.size 7 (.slice bd 0 bc)
    obtain ⟨c2_8, f2_8⟩ := cf hb2 w.heap.size 8 (.slice ad m c)
    obtain ⟨c2_9, f2_9⟩ := cf hb2 (w.heap.size + 1) 0 (.int .i64 0)
    obtain ⟨c2_10, f2_10⟩ := cf hb2 (w.heap.size + 1) 1 (.string { data := #[] })
    obtain ⟨c2_11, f2_11⟩ := cf hb2 (w.heap.size + 1) 2 (.slice none 0 0)
    have hl2_0 := ltB hb2 w.heap.size
    have hl2_1 := ltB hb2 (w.heap.size + 1)
    have hw2 := bwB hb2 w.heap.size w
    have hz2 := hw2.size
    clear hb2
    obtain ⟨vd, vc, hVe⟩ : ∃ vd vc, V = .slice vd m vc := by
      obtain ⟨ad', c', hv⟩ := hV.done.slice
      refine ⟨ad', c', ?_⟩
      rw [hv, List.length_map, HM.out]
    subst hVe
    replace hV := Lib.hid (hV.low (base' := w.heap.size + 2) (by simp))
    have hJ : Is .J (fun b => w.heap.size + 2 ≤ b) w2 (d + 1) (jO (l.map fun x => (x.1, docJ i k x.2))) (.agg #[.int .i64 7, .string { data := #[] }, .slice vd m vc]) := ⟨.slice none 0 0, _, rfl, True.intro, hV.out.done⟩
    replace hJ := Lib.hid hJ
    go_wp2_with fail
    with_reducible refine (HR.out _ ?hpr9x6).mono ?_
    case hpr9x6 => exact HK.out.beyond bel
    rintro e w3 ⟨rfl, hb3⟩
    obtain ⟨c3_0, f3_0⟩ := cf hb3 w.heap.size 0 (.int .i64 4)
    obtain ⟨c3_1, f3_1⟩ := cf hb3 w.heap.size 1 (.int .u64 0)
    obtain ⟨c3_2, f3_2⟩ := cf hb3 w.heap.size 2 (.int .u64 0)
    obtain ⟨c3_3, f3_3⟩ := cf hb3 w.heap.size 3 (.int .u64 0)
    obtain ⟨c3_4, f3_4⟩ := cf hb3 w.heap.size 4 (.string { data := #[] })
    obtain ⟨c3_5, f3_5⟩ := cf hb3 w.heap.size 5 (.string { data := #[] })
    obtain ⟨c3_6, f3_6⟩ := cf hb3 w.heap.size 6 (.int .i64 0)
    obtain ⟨c3_7, f3_7⟩ := cf hb3 w.heap.size 7 (.slice bd 0 bc)
    obtain ⟨c3_8, f3_8⟩ := cf hb3 w.heap.size 8 (.slice ad m c)
    obtain ⟨c3_9, f3_9⟩ := cf hb3 (w.heap.size + 1) 0 (.int .i64 0)
    obtain ⟨c3_10, f3_10⟩ := cf hb3 (w.heap.size + 1) 1 (.string { data := #[] })
    obtain ⟨c3_11, f3_11⟩ := cf hb3 (w.heap.size + 1) 2 (.slice none 0 0)
    obtain ⟨c3_12, f3_12⟩ := cf hb3 w2.heap.size 0 (.int .i64 7)
    obtain ⟨c3_13, f3_13⟩ := cf hb3 w2.heap.size 1 (.string { data := #[] })
    obtain ⟨c3_14, f3_14⟩ := cf hb3 w2.heap.size 2 (.slice vd m vc)
    have hl3_0 := ltB hb3 w.heap.size
    have hl3_1 := ltB hb3 (w.heap.size + 1)
    have hl3_2 := ltB hb3 w2.heap.size
    have hw3 := bwB hb3 w.heap.size w
    have hz3 := hw3.size
    have hx3 := bwB hb3 w2.heap.size w2
    clear hb3
    go_wp2_with fail
    have hJ3 := Lib.hid (hJ.out.beyond hx3)
    with_reducible refine (xone_nArr _ (d + 1) _ (w.heap.size + 2) _ hJ3.out (by omega)).mono ?_
    rintro e w4 ⟨⟨jv, rfl, hj2⟩, hb4⟩
    obtain ⟨c4_0, f4_0⟩ := cf hb4 w.heap.size 0 (.int .i64 4)
    obtain ⟨c4_1, f4_1⟩ := cf hb4 w.heap.size 1 (.int .u64 0)
    obtain ⟨c4_2, f4_2⟩ := cf hb4 w.heap.size 2 (.int .u64 0)
    obtain ⟨c4_3, f4_3⟩ := cf hb4 w.heap.size 3 (.int .u64 0)
    obtain ⟨c4_4, f4_4⟩ := cf hb4 w.heap.size 4 (.string { data := #[] })
    obtain ⟨c4_5, f4_5⟩ := cf hb4 w.heap.size 5 (.string { data := #[] })
    obtain ⟨c4_6, f4_6⟩ := cf hb4 w.heap.size 6 (.int .i64 0)
    obtain ⟨c4_7, f4_7⟩ := cf hb4 w.heap.size 7 (.slice bd 0 bc)
    obtain ⟨c4_8, f4_8⟩ := cf hb4 w.heap.size 8 (.slice ad m c)
    obtain ⟨c4_9, f4_9⟩ := cf hb4 (w.heap.size + 1) 0 (.int .i64 0)
    obtain ⟨c4_10, f4_10⟩ := cf hb4 (w.heap.size + 1) 1 (.string { data := #[] })
    obtain ⟨c4_11, f4_11⟩ := cf hb4 (w.heap.size + 1) 2 (.slice none 0 0)
    have hl4_0 := ltB hb4 w.heap.size
    have hl4_1 := ltB hb4 (w.heap.size + 1)
    have hw4 := bwB hb4 w.heap.size w
    have hz4 := hw4.size
    clear hb4
    obtain ⟨jad2, jc2, hje⟩ := isJ_form hj2
    have hje2 : jv = .agg #[.int .i64 7, .string { data := #[] }, .slice jad2 1 jc2] := hje
    clear hje
    subst hje2
    go_wp2_with fail
    refine bodyPost_ret (v := .agg #[.int .i64 7, .string { data := #[] }, .slice jad2 1 jc2]) (by simp (maxDischargeDepth := 3) [results, Tryz.results109, go_sem, c4_9, c4_10, c4_11, f4_9, f4_10, f4_11]) rfl ?_
    exact ⟨⟨_, rfl, (((hj2.keeps (Keeps.setCell (p := ⟨w.heap.size + 1, 0, none⟩) (by show ¬ _ ≤ w.heap.size + 1; omega) _)).keeps (Keeps.setCell (p := ⟨w.heap.size + 1, 1, none⟩) (by show ¬ _ ≤ w.heap.size + 1; omega) _)).keeps (Keeps.setCell (p := ⟨w.heap.size + 1, 2, none⟩) (by show ¬ _ ≤ w.heap.size + 1; omega) _)).mono (fun b hb _ => by omega)⟩, bel⟩
  · rw [hr] at HR
    have HR := Lib.hid HR
    show Calls _ _ _ _ (fun e w' => (∃ jv, e = .returned jv ∧ Is .J (fun b => w.heap.size ≤ b) w' (d + 2) (jA (l.map fun x => ([], docJ i k x.2))) jv) ∧ Below w.heap.size w w')
    clear hk hp hm hl hr
    go_enter Tryz.func109, Tryz.ntmps109
    go_wp2_with fail
    with_reducible refine (HP.out _ ?hpk8).mono ?_
    case hpk8 => exact HK.out.beyond bel
    rintro e w2 ⟨⟨V, rfl, hV⟩, hb2⟩
    obtain ⟨c2_0, f2_0⟩ := cf hb2 w.heap.size 0 (.int .i64 4)
    obtain ⟨c2_1, f2_1⟩ := cf hb2 w.heap.size 1 (.int .u64 0)
    obtain ⟨c2_2, f2_2⟩ := cf hb2 w.heap.size 2 (.int .u64 0)
    obtain ⟨c2_3, f2_3⟩ := cf hb2 w.heap.size 3 (.int .u64 0)
    obtain ⟨c2_4, f2_4⟩ := cf hb2 w.heap.size 4 (.string { data := #[] })
    obtain ⟨c2_5, f2_5⟩ := cf hb2 w.heap.size 5 (.string { data := #[] })
    obtain ⟨c2_6, f2_6⟩ := cf hb2 w.heap.size 6 (.int .i64 0)
    obtain ⟨c2_7, f2_7⟩ := cf hb2 w.heap.size 7 (.slice bd 0 bc)
    obtain ⟨c2_8, f2_8⟩ := cf hb2 w.heap.size 8 (.slice ad m c)
    obtain ⟨c2_9, f2_9⟩ := cf hb2 (w.heap.size + 1) 0 (.int .i64 0)
    obtain ⟨c2_10, f2_10⟩ := cf hb2 (w.heap.size + 1) 1 (.string { data := #[] })
    obtain ⟨c2_11, f2_11⟩ := cf hb2 (w.heap.size + 1) 2 (.slice none 0 0)
    have hl2_0 := ltB hb2 w.heap.size
    have hl2_1 := ltB hb2 (w.heap.size + 1)
    have hw2 := bwB hb2 w.heap.size w
    have hz2 := hw2.size
    clear hb2
    obtain ⟨vd, vc, hVe⟩ : ∃ vd vc, V = .slice vd m vc := by
      obtain ⟨ad', c', hv⟩ := hV.done.slice
      refine ⟨ad', c', ?_⟩
      rw [hv, List.length_map, HM.out]
    subst hVe
    replace hV := Lib.hid (hV.low (base' := w.heap.size + 2) (by simp))
    have hJ : Is .J (fun b => w.heap.size + 2 ≤ b) w2 (d + 1) (jO (l.map fun x => (x.1, docJ i k x.2))) (.agg #[.int .i64 7, .string { data := #[] }, .slice vd m vc]) := ⟨.slice none 0 0, _, rfl, True.intro, hV.out.done⟩
    replace hJ := Lib.hid hJ
    go_wp2_with fail
    have HVlt := Lib.hid hV.out.lt
    with_reducible refine (HR.out _ ?hpr10x6).mono ?_
    case hpr10x6 => exact HK.out.beyond bel
    rintro e w3 ⟨rfl, hb3⟩
    obtain ⟨c3_0, f3_0⟩ := cf hb3 w.heap.size 0 (.int .i64 4)
    obtain ⟨c3_1, f3_1⟩ := cf hb3 w.heap.size 1 (.int .u64 0)
    obtain ⟨c3_2, f3_2⟩ := cf hb3 w.heap.size 2 (.int .u64 0)
    obtain ⟨c3_3, f3_3⟩ := cf hb3 w.heap.size 3 (.int .u64 0)
    obtain ⟨c3_4, f3_4⟩ := cf hb3 w.heap.size 4 (.string { data := #[] })
    obtain ⟨c3_5, f3_5⟩ := cf hb3 w.heap.size 5 (.string { data := #[] })
    obtain ⟨c3_6, f3_6⟩ := cf hb3 w.heap.size 6 (.int .i64 0)
    obtain ⟨c3_7, f3_7⟩ := cf hb3 w.heap.size 7 (.slice bd 0 bc)
    obtain ⟨c3_8, f3_8⟩ := cf hb3 w.heap.size 8 (.slice ad m c)
    obtain ⟨c3_9, f3_9⟩ := cf hb3 (w.heap.size + 1) 0 (.int .i64 0)
    obtain ⟨c3_10, f3_10⟩ := cf hb3 (w.heap.size + 1) 1 (.string { data := #[] })
    obtain ⟨c3_11, f3_11⟩ := cf hb3 (w.heap.size + 1) 2 (.slice none 0 0)
    obtain ⟨c3_12, f3_12⟩ := cf hb3 w2.heap.size 0 (.int .i64 7)
    obtain ⟨c3_13, f3_13⟩ := cf hb3 w2.heap.size 1 (.string { data := #[] })
    obtain ⟨c3_14, f3_14⟩ := cf hb3 w2.heap.size 2 (.slice vd m vc)
    have hl3_0 := ltB hb3 w.heap.size
    have hl3_1 := ltB hb3 (w.heap.size + 1)
    have hl3_2 := ltB hb3 w2.heap.size
    have hw3 := bwB hb3 w.heap.size w
    have hz3 := hw3.size
    have hx3 := bwB hb3 w2.heap.size w2
    clear hb3
    go_wp2_with fail
    have hV3 := Lib.hid (hV.out.beyond hx3)
    have hjb : w.heap.size + 2 ≤ w2.heap.size := by have := hz2; omega
    have hne : w2.heap.size ≠ w.heap.size + 1 := by omega
    have hlj := hl3_2
    go_loopw [89] (fun x wr => ∃ K, K ≤ m ∧ x = .int .i64 K ∧ wr.cell? ⟨w2.heap.size, 0, none⟩ = some (.int .i64 6) ∧ wr.cell? ⟨w2.heap.size, 1, none⟩ = some (.string { data := #[] }) ∧ wr.cell? ⟨w2.heap.size, 2, none⟩ = some (.slice vd m vc) ∧ wr.cell? ⟨w.heap.size + 1, 0, none⟩ = some (.int .i64 0) ∧ wr.cell? ⟨w.heap.size + 1, 1, none⟩ = some (.string { data := #[] }) ∧ wr.cell? ⟨w.heap.size + 1, 2, none⟩ = some (.slice none 0 0) ∧ wr.frozen? ⟨w.heap.size + 1, 0, none⟩ = false ∧ wr.frozen? ⟨w.heap.size + 1, 1, none⟩ = false ∧ wr.frozen? ⟨w.heap.size + 1, 2, none⟩ = false ∧ wr.frozen? ⟨w2.heap.size, 0, none⟩ = false ∧ w2.heap.size < wr.heap.size ∧ Hid (Bd .J 166 wr (w.heap.size + 2) d (RK (l.map fun x => (x.1, docJ i k x.2)) K) (.slice vd m vc)) ∧ Hid (Below w.heap.size w wr)) (fun x _ => m - (intOf x).toNat)
    case atStart =>
      refine ⟨0, Nat.zero_le _, rfl, ?_, ?_, ?_, ?_, ?_, ?_, ?_, ?_, ?_, ?_, ?_, Lib.hid ?_, Lib.hid ?_⟩
      case refine_12 => exact hV.out.beyond (hx3.setCell (Nat.le_refl _) _)
      case refine_13 => exact hw3.setCell (by simp; omega) _
      all_goals first | (simp [go_sem, *]; done) | (simp; omega)
    case round =>
      obtain ⟨K, hK, rfl, q0, q1, q2, q3, q4, q5, q6, q7, q8, qf, hlw, HD, HW⟩ := hrel
      have hz0 : w.heap.size + 1 < wr.heap.size := by omega
      by_cases hKm : K < m
      · obtain ⟨⟨kn, kx⟩, hkx⟩ : ∃ x, (l.map fun x => (x.1, docJ i k x.2))[K]? = some x := ⟨_, List.getElem?_eq_getElem (by rw [List.length_map, HM.out]; exact hKm)⟩
        have hat := rk_at hkx
        have hset := rk_set hkx
        obtain ⟨g, hg, hgb⟩ := bd_head HD.out (by omega)
        subst hg
        obtain ⟨hg1, hg2⟩ := HVlt.out g rfl
        obtain ⟨n1, n2⟩ := bd_free HD.out hat
        have e4 : 4 * K = K * 4 := Nat.mul_comm _ _
        rw [e4] at n1 n2
        have HD2 : Hid (Bd .J 166 (wr.setCell ⟨g, K * 4, none⟩ (.string { data := #[] })) (w.heap.size + 2) d (RK (l.map fun x => (x.1, docJ i k x.2)) (K + 1)) (.slice (some ⟨g, 0, none⟩) m vc)) := Lib.hid (by
          have h := bd_rename HD.out hat []
          rw [hset, e4] at h
          exact h)
        have d1 : g ≠ w2.heap.size := by omega
        have d2 : g ≠ w.heap.size + 1 := by omega
        have d3 : w2.heap.size ≠ g := fun e => d1 e.symm
        have d4 : w.heap.size + 1 ≠ g := fun e => d2 e.symm
        clear hat hset hkx e4
        have HKm := Lib.hid hKm
        go_wp2_with fail
        go_roundw
        case rel =>
          have hKm := HKm.out
          refine ⟨K + 1, by omega, by go_num, ?_, ?_, ?_, ?_, ?_, ?_, ?_, ?_, ?_, ?_, ?_, HD2, Lib.hid (HW.out.setCell (by show w.heap.size ≤ g; omega) _)⟩
          all_goals first | (simp [go_sem, *]; done) | (simp; omega)
        case measure => have hKm := HKm.out; simp [intOf]; omega
      · have hKe : K = m := by omega
        subst hKe
        have hwr := HW.out
        have HJ : Hid (Is .J (fun b => w.heap.size + 2 ≤ b) wr (d + 2) (jA (l.map fun x => ([], docJ i k x.2))) (.agg #[.int .i64 6, .string { data := #[] }, .slice vd K vc])) := Lib.hid (by
          have h := HD.out.done
          rw [rk_all (by rw [List.length_map, HM.out]; exact Nat.le_refl _), List.map_map] at h
          exact ⟨.slice none 0 0, _, rfl, True.intro, Kd.more (by omega) h⟩)
        go_wp2_with fail
        refine bodyPost_ret (v := .agg #[.int .i64 6, .string { data := #[] }, .slice vd K vc]) (by simp (maxDischargeDepth := 3) [results, Tryz.results109, go_sem, q0, q1, q2, q3, q4, q5, q6, q7, q8]) rfl ?_
        exact ⟨⟨_, rfl, (((HJ.out.keeps (Keeps.setCell (p := ⟨w.heap.size + 1, 0, none⟩) (by show ¬ _ ≤ w.heap.size + 1; omega) _)).keeps (Keeps.setCell (p := ⟨w.heap.size + 1, 1, none⟩) (by show ¬ _ ≤ w.heap.size + 1; omega) _)).keeps (Keeps.setCell (p := ⟨w.heap.size + 1, 2, none⟩) (by show ¬ _ ≤ w.heap.size + 1; omega) _)).mono (fun b hb _ => by omega)⟩, bel⟩
end
end Go.Proofs.YtihnfhhopldllaaGreatDoor
