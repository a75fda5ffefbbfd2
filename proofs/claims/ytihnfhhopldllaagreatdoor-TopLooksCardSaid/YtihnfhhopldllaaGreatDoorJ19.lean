/- Parts of the proof of TopLooks: U15. No condition. -/
import Derived.Test.YtihnfhhopldllaaGreatDoorJ1
import Derived.Test.YtihnfhhopldllaaGreatDoorJ16
namespace Go.Proofs.YtihnfhhopldllaaGreatDoor
set_option linter.unusedSimpArgs false
set_option linter.unusedVariables false
set_option maxHeartbeats 6400000
set_option maxRecDepth 100000
section
open Go.RowKit
theorem dol_pre {l : KL} {kn : List UInt8} {kx : Ro} (h : l[0]? = some (kn, kx)) : dol l = Lib.hasPrefix kn [36] := by
  cases l with
  | nil => cases h
  | cons y l =>
    have e : y = (kn, kx) := Option.some.inj h
    subst e
    cases kn with
    | nil => rfl
    | cons c t =>
      unfold Lib.hasPrefix
      by_cases hc : c = 36
      · subst hc; rfl
      · have e1 : dol ((c :: t, kx) :: l) = false := by
          unfold dol
          split
          · rename_i h1
            injection h1 with h1 _
            injection h1 with h1 _
            injection h1 with h1 _
            exact absurd h1 hc
          · rfl
        rw [e1]
        show false = (36 == c && _)
        rw [beq_eq_false_iff_ne.2 (fun e => hc e.symm)]; rfl
theorem cone_nDoc (j : Ro) (k : Nat) (jv : Value) (B : Nat) (w : World) (hj : Is .J (fun b => B ≤ b) w k j jv) (hB : B ≤ w.heap.size) :
    Calls Tryz.prog 177 #[.string { data := #[36, 100, 111, 99, 117, 109, 101, 110, 116] }, jv] w fun e w' => (∃ v, e = .returned v ∧ Is .J (fun b => B ≤ b) w' (k + 1) (jO [(nDoc, j)]) v) ∧ Below w.heap.size w w' := cone_any nDoc j k jv B w hj hB
theorem cone_nArr (j : Ro) (k : Nat) (jv : Value) (B : Nat) (w : World) (hj : Is .J (fun b => B ≤ b) w k j jv) (hB : B ≤ w.heap.size) :
    Calls Tryz.prog 177 #[.string { data := #[36, 97, 114, 114, 97, 121] }, jv] w fun e w' => (∃ v, e = .returned v ∧ Is .J (fun b => B ≤ b) w' (k + 1) (jO [(nArr, j)]) v) ∧ Below w.heap.size w w' := cone_any nArr j k jv B w hj hB
theorem xone_nDoc (j : Ro) (k : Nat) (jv : Value) (B : Nat) (w : World) (hj : Is .J (fun b => B ≤ b) w k j jv) (hB : B ≤ w.heap.size) :
    Calls Tryz.prog 187 #[.string { data := #[36, 100, 111, 99, 117, 109, 101, 110, 116] }, jv] w fun e w' => (∃ v, e = .returned v ∧ Is .J (fun b => B ≤ b) w' (k + 1) (jO [(nDoc, j)]) v) ∧ Below w.heap.size w w' := xone_any nDoc j k jv B w hj hB
theorem xone_nArr (j : Ro) (k : Nat) (jv : Value) (B : Nat) (w : World) (hj : Is .J (fun b => B ≤ b) w k j jv) (hB : B ≤ w.heap.size) :
    Calls Tryz.prog 187 #[.string { data := #[36, 97, 114, 114, 97, 121] }, jv] w fun e w' => (∃ v, e = .returned v ∧ Is .J (fun b => B ≤ b) w' (k + 1) (jO [(nArr, j)]) v) ∧ Below w.heap.size w w' := xone_any nArr j k jv B w hj hB
theorem cvalue_3 (k d : Nat) (i : Ro) (l : KL) (Q : Nat → Prop) (bd : Option Addr) (bc : Nat) (ad : Option Addr) (m c : Nat) (hm : l.length = m) (w : World) (hk : Kd .V Q w (k + 1) l (.slice ad m c))
    (hp : ∀ w, Kd .V Q w (k + 1) l (.slice ad m c) → Calls Tryz.prog 61 #[.slice ad m c] w fun e w' => (∃ V, e = .returned (.agg #[.int .i64 7, .string { data := #[] }, V]) ∧ Bd .J 166 w' w.heap.size d (l.map fun x => (x.1, docJ i k x.2)) V) ∧ Below w.heap.size w w') :
    Calls Tryz.prog 106 #[.agg #[.int .i64 3, .int .u64 0, .int .u64 0, .int .u64 0, .string { data := #[] }, .string { data := #[] }, .int .i64 0, .slice bd 0 bc, .slice ad m c]] w fun e w' => (∃ jv, e = .returned jv ∧ Is .J (fun b => w.heap.size ≤ b) w' (d + 2) (wrapD (dol l) (jO (l.map fun x => (x.1, docJ i k x.2)))) jv) ∧ Below w.heap.size w w' := by
  have HK := Lib.hid hk
  have HP := Lib.hid hp
  have HM := Lib.hid hm
  by_cases h0 : m = 0
  · have hd : dol l = false := by
      have : l = [] := List.length_eq_zero_iff.1 (by omega)
      subst this
      rfl
    rw [hd]
    show Calls _ _ _ _ (fun e w' => (∃ jv, e = .returned jv ∧ Is .J (fun b => w.heap.size ≤ b) w' (d + 2) (jO (l.map fun x => (x.1, docJ i k x.2))) jv) ∧ Below w.heap.size w w')
    clear hd hk hp hm
    subst h0
    go_enter Tryz.func106, Tryz.ntmps106
    go_wp2_with fail
    with_reducible refine (HP.out _ ?hpk1).mono ?_
    case hpk1 => exact HK.out.beyond bel
    rintro e w2 ⟨⟨V, rfl, hV⟩, hb2⟩
    obtain ⟨c2_0, f2_0⟩ := cf hb2 w.heap.size 0 (.int .i64 3)
    obtain ⟨c2_1, f2_1⟩ := cf hb2 w.heap.size 1 (.int .u64 0)
    obtain ⟨c2_2, f2_2⟩ := cf hb2 w.heap.size 2 (.int .u64 0)
    obtain ⟨c2_3, f2_3⟩ := cf hb2 w.heap.size 3 (.int .u64 0)
    obtain ⟨c2_4, f2_4⟩ := cf hb2 w.heap.size 4 (.string { data := #[] })
    obtain ⟨c2_5, f2_5⟩ := cf hb2 w.heap.size 5 (.string { data := #[] })
    obtain ⟨c2_6, f2_6⟩ := cf hb2 w.heap.size 6 (.int .i64 0)
    obtain ⟨c2_7, f2_7⟩ := cf hb2 w.heap.size 7 (.slice bd 0 bc)
    obtain ⟨c2_8, f2_8⟩ := cf hb2 w.heap.size 8 (.slice ad 0 c)
    obtain ⟨c2_9, f2_9⟩ := cf hb2 (w.heap.size + 1) 0 (.int .i64 0)
    obtain ⟨c2_10, f2_10⟩ := cf hb2 (w.heap.size + 1) 1 (.string { data := #[] })
    obtain ⟨c2_11, f2_11⟩ := cf hb2 (w.heap.size + 1) 2 (.slice none 0 0)
    have hl2_0 := ltB hb2 w.heap.size
    have hl2_1 := ltB hb2 (w.heap.size + 1)
    have hw2 := bwB hb2 w.heap.size w
    have hz2 := hw2.size
    clear hb2
    obtain ⟨vd, vc, hVe⟩ : ∃ vd vc, V = .slice vd 0 vc := by
      obtain ⟨ad', c', hv⟩ := hV.done.slice
      refine ⟨ad', c', ?_⟩
      rw [hv, List.length_map, HM.out]
    subst hVe
    replace hV := Lib.hid (hV.low (base' := w.heap.size + 2) (by simp))
    have hJ : Is .J (fun b => w.heap.size + 2 ≤ b) w2 (d + 1) (jO (l.map fun x => (x.1, docJ i k x.2))) (.agg #[.int .i64 7, .string { data := #[] }, .slice vd 0 vc]) := ⟨.slice none 0 0, _, rfl, True.intro, hV.out.done⟩
    replace hJ := Lib.hid hJ
    go_wp2_with fail
    refine bodyPost_ret (v := .agg #[.int .i64 7, .string { data := #[] }, .slice vd 0 vc]) (by simp (maxDischargeDepth := 3) [results, Tryz.results106, go_sem, c2_9, c2_10, c2_11, f2_9, f2_10, f2_11]) rfl ?_
    exact ⟨⟨_, rfl, ((((hJ.out.more (by omega : d + 1 ≤ d + 2)).keeps (Keeps.setCell (p := ⟨w.heap.size + 1, 0, none⟩) (by show ¬ _ ≤ w.heap.size + 1; omega) _)).keeps (Keeps.setCell (p := ⟨w.heap.size + 1, 1, none⟩) (by show ¬ _ ≤ w.heap.size + 1; omega) _)).keeps (Keeps.setCell (p := ⟨w.heap.size + 1, 2, none⟩) (by show ¬ _ ≤ w.heap.size + 1; omega) _)).mono (fun b hb _ => by omega)⟩, bel⟩
  · obtain ⟨⟨kn, kx⟩, hkx⟩ : ∃ x, l[0]? = some x := ⟨_, List.getElem?_eq_getElem (by omega)⟩
    obtain ⟨b, o, bv, s, rfl, hqb, hbl, hra, hby, hkd⟩ := hk.at hkx
    have hn0 : w.cell? ⟨b, o, none⟩ = some (.string (bs kn)) := hra 0 _ (by rfl)
    have hd : dol l = Lib.hasPrefix kn [36] := dol_pre hkx
    have H1 := Lib.hid (fun w => Tryz.strings_HasPrefix (bs kn) { data := #[36] } w)
    have hm0 : (0 : Int) < m := by omega
    obtain ⟨D, hD⟩ : ∃ D, dol l = D := ⟨_, rfl⟩
    have H2 : Hid (∀ w, Calls Tryz.prog 176 #[.string (bs kn), .string { data := #[36] }] w fun e w' => e = .returned (.bool D) ∧ w' = w) := Lib.hid (fun w => by rw [← hD, hd]; exact H1.out w)
    rw [hD]
    clear H1 hD hd hk hp hm hra hby hkd hkx
    generalize bs kn = KN at *
    cases D
    · show Calls _ _ _ _ (fun e w' => (∃ jv, e = .returned jv ∧ Is .J (fun b => w.heap.size ≤ b) w' (d + 2) (jO (l.map fun x => (x.1, docJ i k x.2))) jv) ∧ Below w.heap.size w w')
      go_enter Tryz.func106, Tryz.ntmps106
      go_wp2_with fail
      with_reducible refine (H2.out _).mono ?_
      rintro e w' ⟨rfl, rfl⟩
      go_wp2_with fail
      with_reducible refine (HP.out _ ?hpk2).mono ?_
      case hpk2 => exact HK.out.beyond bel
      rintro e w2 ⟨⟨V, rfl, hV⟩, hb2⟩
      obtain ⟨c2_0, f2_0⟩ := cf hb2 w.heap.size 0 (.int .i64 3)
      obtain ⟨c2_1, f2_1⟩ := cf hb2 w.heap.size 1 (.int .u64 0)
      obtain ⟨c2_2, f2_2⟩ := cf hb2 w.heap.size 2 (.int .u64 0)
      obtain ⟨c2_3, f2_3⟩ := cf hb2 w.heap.size 3 (.int .u64 0)
      obtain ⟨c2_4, f2_4⟩ := cf hb2 w.heap.size 4 (.string { data := #[] })
      obtain ⟨c2_5, f2_5⟩ := cf hb2 w.heap.size 5 (.string { data := #[] })
      obtain ⟨c2_6, f2_6⟩ := cf hb2 w.heap.size 6 (.int .i64 0)
      obtain ⟨c2_7, f2_7⟩ := cf hb2 w.heap.size 7 (.slice bd 0 bc)
      obtain ⟨c2_8, f2_8⟩ := cf hb2 w.heap.size 8 (.slice (some ⟨b, o, none⟩) m c)
      obtain ⟨c2_9, f2_9⟩ := cf hb2 (w.heap.size + 1) 0 (.int .i64 0)
      obtain ⟨c2_10, f2_10⟩ := cf hb2 (w.heap.size + 1) 1 (.string { data := #[] })
      obtain ⟨c2_11, f2_11⟩ := cf hb2 (w.heap.size + 1) 2 (.slice none 0 0)
      have hl2_0 := ltB hb2 w.heap.size
      have hl2_1 := ltB hb2 (w.heap.size + 1)
      have hw2 := bwB hb2 w.heap.size w
      have hz2 := hw2.size
      clear hb2
      obtain ⟨vd, vc, hVe⟩ : ∃ vd vc, V = .slice vd m vc := by
        obtain ⟨ad', c', hv⟩ := hV.done.slice
        refine ⟨ad', c', ?_⟩
        rw [hv, List.length_map, HM.out]
      subst hVe
      replace hV := Lib.hid (hV.low (base' := w.heap.size + 2) (by simp))
      have hJ : Is .J (fun b => w.heap.size + 2 ≤ b) w2 (d + 1) (jO (l.map fun x => (x.1, docJ i k x.2))) (.agg #[.int .i64 7, .string { data := #[] }, .slice vd m vc]) := ⟨.slice none 0 0, _, rfl, True.intro, hV.out.done⟩
      replace hJ := Lib.hid hJ
      go_wp2_with fail
      refine bodyPost_ret (v := .agg #[.int .i64 7, .string { data := #[] }, .slice vd m vc]) (by simp (maxDischargeDepth := 3) [results, Tryz.results106, go_sem, c2_9, c2_10, c2_11, f2_9, f2_10, f2_11]) rfl ?_
      exact ⟨⟨_, rfl, ((((hJ.out.more (by omega : d + 1 ≤ d + 2)).keeps (Keeps.setCell (p := ⟨w.heap.size + 1, 0, none⟩) (by show ¬ _ ≤ w.heap.size + 1; omega) _)).keeps (Keeps.setCell (p := ⟨w.heap.size + 1, 1, none⟩) (by show ¬ _ ≤ w.heap.size + 1; omega) _)).keeps (Keeps.setCell (p := ⟨w.heap.size + 1, 2, none⟩) (by show ¬ _ ≤ w.heap.size + 1; omega) _)).mono (fun b hb _ => by omega)⟩, bel⟩
    · show Calls _ _ _ _ (fun e w' => (∃ jv, e = .returned jv ∧ Is .J (fun b => w.heap.size ≤ b) w' (d + 2) (jO [(nDoc, jO (l.map fun x => (x.1, docJ i k x.2)))]) jv) ∧ Below w.heap.size w w')
      go_enter Tryz.func106, Tryz.ntmps106
      go_wp2_with fail
      with_reducible refine (H2.out _).mono ?_
      rintro e w' ⟨rfl, rfl⟩
      go_wp2_with fail
      with_reducible refine (HP.out _ ?hpk2).mono ?_
      case hpk2 => exact HK.out.beyond bel
      rintro e w2 ⟨⟨V, rfl, hV⟩, hb2⟩
      obtain ⟨c2_0, f2_0⟩ := cf hb2 w.heap.size 0 (.int .i64 3)
      obtain ⟨c2_1, f2_1⟩ := cf hb2 w.heap.size 1 (.int .u64 0)
      obtain ⟨c2_2, f2_2⟩ := cf hb2 w.heap.size 2 (.int .u64 0)
      obtain ⟨c2_3, f2_3⟩ := cf hb2 w.heap.size 3 (.int .u64 0)
      obtain ⟨c2_4, f2_4⟩ := cf hb2 w.heap.size 4 (.string { data := #[] })
      obtain ⟨c2_5, f2_5⟩ := cf hb2 w.heap.size 5 (.string { data := #[] })
      obtain ⟨c2_6, f2_6⟩ := cf hb2 w.heap.size 6 (.int .i64 0)
      obtain ⟨c2_7, f2_7⟩ := cf hb2 w.heap.size 7 (.slice bd 0 bc)
      obtain ⟨c2_8, f2_8⟩ := cf hb2 w.heap.size 8 (.slice (some ⟨b, o, none⟩) m c)
      obtain ⟨c2_9, f2_9⟩ := cf hb2 (w.heap.size + 1) 0 (.int .i64 0)
      obtain ⟨c2_10, f2_10⟩ := cf hb2 (w.heap.size + 1) 1 (.string { data := #[] })
      obtain ⟨c2_11, f2_11⟩ := cf hb2 (w.heap.size + 1) 2 (.slice none 0 0)
      have hl2_0 := ltB hb2 w.heap.size
      have hl2_1 := ltB hb2 (w.heap.size + 1)
      have hw2 := bwB hb2 w.heap.size w
      have hz2 := hw2.size
      clear hb2
      obtain ⟨vd, vc, hVe⟩ : ∃ vd vc, V = .slice vd m vc := by
        obtain ⟨ad', c', hv⟩ := hV.done.slice
        refine ⟨ad', c', ?_⟩
        rw [hv, List.length_map, HM.out]
      subst hVe
      replace hV := Lib.hid (hV.low (base' := w.heap.size + 2) (by simp))
      have hJ : Is .J (fun b => w.heap.size + 2 ≤ b) w2 (d + 1) (jO (l.map fun x => (x.1, docJ i k x.2))) (.agg #[.int .i64 7, .string { data := #[] }, .slice vd m vc]) := ⟨.slice none 0 0, _, rfl, True.intro, hV.out.done⟩
      replace hJ := Lib.hid hJ
      go_wp2_with fail
      with_reducible refine (cone_nDoc _ (d + 1) _ (w.heap.size + 2) _ hJ.out (by omega)).mono ?_
      rintro e w3 ⟨⟨jv, rfl, hj2⟩, hb3⟩
      obtain ⟨c3_0, f3_0⟩ := cf hb3 w.heap.size 0 (.int .i64 3)
      obtain ⟨c3_1, f3_1⟩ := cf hb3 w.heap.size 1 (.int .u64 0)
      obtain ⟨c3_2, f3_2⟩ := cf hb3 w.heap.size 2 (.int .u64 0)
      obtain ⟨c3_3, f3_3⟩ := cf hb3 w.heap.size 3 (.int .u64 0)
      obtain ⟨c3_4, f3_4⟩ := cf hb3 w.heap.size 4 (.string { data := #[] })
      obtain ⟨c3_5, f3_5⟩ := cf hb3 w.heap.size 5 (.string { data := #[] })
      obtain ⟨c3_6, f3_6⟩ := cf hb3 w.heap.size 6 (.int .i64 0)
      obtain ⟨c3_7, f3_7⟩ := cf hb3 w.heap.size 7 (.slice bd 0 bc)
      obtain ⟨c3_8, f3_8⟩ := cf hb3 w.heap.size 8 (.slice (some ⟨b, o, none⟩) m c)
      obtain ⟨c3_9, f3_9⟩ := cf hb3 (w.heap.size + 1) 0 (.int .i64 0)
      obtain ⟨c3_10, f3_10⟩ := cf hb3 (w.heap.size + 1) 1 (.string { data := #[] })
      obtain ⟨c3_11, f3_11⟩ := cf hb3 (w.heap.size + 1) 2 (.slice none 0 0)
      have hl3_0 := ltB hb3 w.heap.size
      have hl3_1 := ltB hb3 (w.heap.size + 1)
      have hw3 := bwB hb3 w.heap.size w
      have hz3 := hw3.size
      clear hb3
      obtain ⟨jad2, jc2, hje⟩ := isJ_form hj2
      have hje2 : jv = .agg #[.int .i64 7, .string { data := #[] }, .slice jad2 1 jc2] := hje
      clear hje
      subst hje2
      go_wp2_with fail
      refine bodyPost_ret (v := .agg #[.int .i64 7, .string { data := #[] }, .slice jad2 1 jc2]) (by simp (maxDischargeDepth := 3) [results, Tryz.results106, go_sem, c3_9, c3_10, c3_11, f3_9, f3_10, f3_11]) rfl ?_
      exact ⟨⟨_, rfl, (((hj2.keeps (Keeps.setCell (p := ⟨w.heap.size + 1, 0, none⟩) (by show ¬ _ ≤ w.heap.size + 1; omega) _)).keeps (Keeps.setCell (p := ⟨w.heap.size + 1, 1, none⟩) (by show ¬ _ ≤ w.heap.size + 1; omega) _)).keeps (Keeps.setCell (p := ⟨w.heap.size + 1, 2, none⟩) (by show ¬ _ ≤ w.heap.size + 1; omega) _)).mono (fun b hb _ => by omega)⟩, bel⟩
theorem xvalue_3 (k d : Nat) (i : Ro) (l : KL) (Q : Nat → Prop) (bd : Option Addr) (bc : Nat) (ad : Option Addr) (m c : Nat) (hm : l.length = m) (w : World) (hk : Kd .V Q w (k + 1) l (.slice ad m c))
    (hp : ∀ w, Kd .V Q w (k + 1) l (.slice ad m c) → Calls Tryz.prog 64 #[.slice ad m c] w fun e w' => (∃ V, e = .returned (.agg #[.int .i64 7, .string { data := #[] }, V]) ∧ Bd .J 166 w' w.heap.size d (l.map fun x => (x.1, docJ i k x.2)) V) ∧ Below w.heap.size w w') :
    Calls Tryz.prog 109 #[.agg #[.int .i64 3, .int .u64 0, .int .u64 0, .int .u64 0, .string { data := #[] }, .string { data := #[] }, .int .i64 0, .slice bd 0 bc, .slice ad m c]] w fun e w' => (∃ jv, e = .returned jv ∧ Is .J (fun b => w.heap.size ≤ b) w' (d + 2) (wrapD (dol l) (jO (l.map fun x => (x.1, docJ i k x.2)))) jv) ∧ Below w.heap.size w w' := by
  have HK := Lib.hid hk
  have HP := Lib.hid hp
  have HM := Lib.hid hm
  by_cases h0 : m = 0
  · have hd : dol l = false := by
      have : l = [] := List.length_eq_zero_iff.1 (by omega)
      subst this
      rfl
    rw [hd]
    show Calls _ _ _ _ (fun e w' => (∃ jv, e = .returned jv ∧ Is .J (fun b => w.heap.size ≤ b) w' (d + 2) (jO (l.map fun x => (x.1, docJ i k x.2))) jv) ∧ Below w.heap.size w w')
    clear hd hk hp hm
    subst h0
    go_enter Tryz.func109, Tryz.ntmps109
    go_wp2_with fail
    with_reducible refine (HP.out _ ?hpk3).mono ?_
    case hpk3 => exact HK.out.beyond bel
    rintro e w2 ⟨⟨V, rfl, hV⟩, hb2⟩
    obtain ⟨c2_0, f2_0⟩ := cf hb2 w.heap.size 0 (.int .i64 3)
    obtain ⟨c2_1, f2_1⟩ := cf hb2 w.heap.size 1 (.int .u64 0)
    obtain ⟨c2_2, f2_2⟩ := cf hb2 w.heap.size 2 (.int .u64 0)
    obtain ⟨c2_3, f2_3⟩ := cf hb2 w.heap.size 3 (.int .u64 0)
    obtain ⟨c2_4, f2_4⟩ := cf hb2 w.heap.size 4 (.string { data := #[] })
    obtain ⟨c2_5, f2_5⟩ := cf hb2 w.heap.size 5 (.string { data := #[] })
    obtain ⟨c2_6, f2_6⟩ := cf hb2 w.heap.size 6 (.int .i64 0)
    obtain ⟨c2_7, f2_7⟩ := cf hb2 w.heap.size 7 (.slice bd 0 bc)
    obtain ⟨c2_8, f2_8⟩ := cf hb2 w.heap.size 8 (.slice ad 0 c)
    obtain ⟨c2_9, f2_9⟩ := cf hb2 (w.heap.size + 1) 0 (.int .i64 0)
    obtain ⟨c2_10, f2_10⟩ := cf hb2 (w.heap.size + 1) 1 (.string { data := #[] })
    obtain ⟨c2_11, f2_11⟩ := cf hb2 (w.heap.size + 1) 2 (.slice none 0 0)
    have hl2_0 := ltB hb2 w.heap.size
    have hl2_1 := ltB hb2 (w.heap.size + 1)
    have hw2 := bwB hb2 w.heap.size w
    have hz2 := hw2.size
    clear hb2
    obtain ⟨vd, vc, hVe⟩ : ∃ vd vc, V = .slice vd 0 vc := by
      obtain ⟨ad', c', hv⟩ := hV.done.slice
      refine ⟨ad', c', ?_⟩
      rw [hv, List.length_map, HM.out]
    subst hVe
    replace hV := Lib.hid (hV.low (base' := w.heap.size + 2) (by simp))
    have hJ : Is .J (fun b => w.heap.size + 2 ≤ b) w2 (d + 1) (jO (l.map fun x => (x.1, docJ i k x.2))) (.agg #[.int .i64 7, .string { data := #[] }, .slice vd 0 vc]) := ⟨.slice none 0 0, _, rfl, True.intro, hV.out.done⟩
    replace hJ := Lib.hid hJ
    go_wp2_with fail
    refine bodyPost_ret (v := .agg #[.int .i64 7, .string { data := #[] }, .slice vd 0 vc]) (by simp (maxDischargeDepth := 3) [results, Tryz.results109, go_sem, c2_9, c2_10, c2_11, f2_9, f2_10, f2_11]) rfl ?_
    exact ⟨⟨_, rfl, ((((hJ.out.more (by omega : d + 1 ≤ d + 2)).keeps (Keeps.setCell (p := ⟨w.heap.size + 1, 0, none⟩) (by show ¬ _ ≤ w.heap.size + 1; omega) _)).keeps (Keeps.setCell (p := ⟨w.heap.size + 1, 1, none⟩) (by show ¬ _ ≤ w.heap.size + 1; omega) _)).keeps (Keeps.setCell (p := ⟨w.heap.size + 1, 2, none⟩) (by show ¬ _ ≤ w.heap.size + 1; omega) _)).mono (fun b hb _ => by omega)⟩, bel⟩
  · obtain ⟨⟨kn, kx⟩, hkx⟩ : ∃ x, l[0]? = some x := ⟨_, List.getElem?_eq_getElem (by omega)⟩
    obtain ⟨b, o, bv, s, rfl, hqb, hbl, hra, hby, hkd⟩ := hk.at hkx
    have hn0 : w.cell? ⟨b, o, none⟩ = some (.string (bs kn)) := hra 0 _ (by rfl)
    have hd : dol l = Lib.hasPrefix kn [36] := dol_pre hkx
    have H1 := Lib.hid (fun w => Tryz.strings_HasPrefix (bs kn) { data := #[36] } w)
    have hm0 : (0 : Int) < m := by omega
    obtain ⟨D, hD⟩ : ∃ D, dol l = D := ⟨_, rfl⟩
    have H2 : Hid (∀ w, Calls Tryz.prog 176 #[.string (bs kn), .string { data := #[36] }] w fun e w' => e = .returned (.bool D) ∧ w' = w) := Lib.hid (fun w => by rw [← hD, hd]; exact H1.out w)
    rw [hD]
    clear H1 hD hd hk hp hm hra hby hkd hkx
    generalize bs kn = KN at *
    cases D
    · show Calls _ _ _ _ (fun e w' => (∃ jv, e = .returned jv ∧ Is .J (fun b => w.heap.size ≤ b) w' (d + 2) (jO (l.map fun x => (x.1, docJ i k x.2))) jv) ∧ Below w.heap.size w w')
      go_enter Tryz.func109, Tryz.ntmps109
      go_wp2_with fail
      with_reducible refine (H2.out _).mono ?_
      rintro e w' ⟨rfl, rfl⟩
      go_wp2_with fail
      with_reducible refine (HP.out _ ?hpk4).mono ?_
      case hpk4 => exact HK.out.beyond bel
      rintro e w2 ⟨⟨V, rfl, hV⟩, hb2⟩
      obtain ⟨c2_0, f2_0⟩ := cf hb2 w.heap.size 0 (.int .i64 3)
      obtain ⟨c2_1, f2_1⟩ := cf hb2 w.heap.size 1 (.int .u64 0)
      obtain ⟨c2_2, f2_2⟩ := cf hb2 w.heap.size 2 (.int .u64 0)
      obtain ⟨c2_3, f2_3⟩ := cf hb2 w.heap.size 3 (.int .u64 0)
      obtain ⟨c2_4, f2_4⟩ := cf hb2 w.heap.size 4 (.string { data := #[] })
      obtain ⟨c2_5, f2_5⟩ := cf hb2 w.heap.size 5 (.string { data := #[] })
      obtain ⟨c2_6, f2_6⟩ := cf hb2 w.heap.size 6 (.int .i64 0)
      obtain ⟨c2_7, f2_7⟩ := cf hb2 w.heap.size 7 (.slice bd 0 bc)
      obtain ⟨c2_8, f2_8⟩ := cf hb2 w.heap.size 8 (.slice (some ⟨b, o, none⟩) m c)
      obtain ⟨c2_9, f2_9⟩ := cf hb2 (w.heap.size + 1) 0 (.int .i64 0)
      obtain ⟨c2_10, f2_10⟩ := cf hb2 (w.heap.size + 1) 1 (.string { data := #[] })
      obtain ⟨c2_11, f2_11⟩ := cf hb2 (w.heap.size + 1) 2 (.slice none 0 0)
      have hl2_0 := ltB hb2 w.heap.size
      have hl2_1 := ltB hb2 (w.heap.size + 1)
      have hw2 := bwB hb2 w.heap.size w
      have hz2 := hw2.size
      clear hb2
      obtain ⟨vd, vc, hVe⟩ : ∃ vd vc, V = .slice vd m vc := by
        obtain ⟨ad', c', hv⟩ := hV.done.slice
        refine ⟨ad', c', ?_⟩
        rw [hv, List.length_map, HM.out]
      subst hVe
      replace hV := Lib.hid (hV.low (base' := w.heap.size + 2) (by simp))
      have hJ : Is .J (fun b => w.heap.size + 2 ≤ b) w2 (d + 1) (jO (l.map fun x => (x.1, docJ i k x.2))) (.agg #[.int .i64 7, .string { data := #[] }, .slice vd m vc]) := ⟨.slice none 0 0, _, rfl, True.intro, hV.out.done⟩
      replace hJ := Lib.hid hJ
      go_wp2_with fail
      refine bodyPost_ret (v := .agg #[.int .i64 7, .string { data := #[] }, .slice vd m vc]) (by simp (maxDischargeDepth := 3) [results, Tryz.results109, go_sem, c2_9, c2_10, c2_11, f2_9, f2_10, f2_11]) rfl ?_
      exact ⟨⟨_, rfl, ((((hJ.out.more (by omega : d + 1 ≤ d + 2)).keeps (Keeps.setCell (p := ⟨w.heap.size + 1, 0, none⟩) (by show ¬ _ ≤ w.heap.size + 1; omega) _)).keeps (Keeps.setCell (p := ⟨w.heap.size + 1, 1, none⟩) (by show ¬ _ ≤ w.heap.size + 1; omega) _)).keeps (Keeps.setCell (p := ⟨w.heap.size + 1, 2, none⟩) (by show ¬ _ ≤ w.heap.size + 1; omega) _)).mono (fun b hb _ => by omega)⟩, bel⟩
    · show Calls _ _ _ _ (fun e w' => (∃ jv, e = .returned jv ∧ Is .J (fun b => w.heap.size ≤ b) w' (d + 2) (jO [(nDoc, jO (l.map fun x => (x.1, docJ i k x.2)))]) jv) ∧ Below w.heap.size w w')
      go_enter Tryz.func109, Tryz.ntmps109
      go_wp2_with fail
      with_reducible refine (H2.out _).mono ?_
      rintro e w' ⟨rfl, rfl⟩
      go_wp2_with fail
      with_reducible refine (HP.out _ ?hpk4).mono ?_
      case hpk4 => exact HK.out.beyond bel
      rintro e w2 ⟨⟨V, rfl, hV⟩, hb2⟩
      obtain ⟨c2_0, f2_0⟩ := cf hb2 w.heap.size 0 (.int .i64 3)
      obtain ⟨c2_1, f2_1⟩ := cf hb2 w.heap.size 1 (.int .u64 0)
      obtain ⟨c2_2, f2_2⟩ := cf hb2 w.heap.size 2 (.int .u64 0)
      obtain ⟨c2_3, f2_3⟩ := cf hb2 w.heap.size 3 (.int .u64 0)
      obtain ⟨c2_4, f2_4⟩ := cf hb2 w.heap.size 4 (.string { data := #[] })
      obtain ⟨c2_5, f2_5⟩ := cf hb2 w.heap.size 5 (.string { data := #[] })
      obtain ⟨c2_6, f2_6⟩ := cf hb2 w.heap.size 6 (.int .i64 0)
      obtain ⟨c2_7, f2_7⟩ := cf hb2 w.heap.size 7 (.slice bd 0 bc)
      obtain ⟨c2_8, f2_8⟩ := cf hb2 w.heap.size 8 (.slice (some ⟨b, o, none⟩) m c)
      obtain ⟨c2_9, f2_9⟩ := cf hb2 (w.heap.size + 1) 0 (.int .i64 0)
      obtain ⟨c2_10, f2_10⟩ := cf hb2 (w.heap.size + 1) 1 (.string { data := #[] })
      obtain ⟨c2_11, f2_11⟩ := cf hb2 (w.heap.size + 1) 2 (.slice none 0 0)
      have hl2_0 := ltB hb2 w.heap.size
      have hl2_1 := ltB hb2 (w.heap.size + 1)
      have hw2 := bwB hb2 w.heap.size w
      have hz2 := hw2.size
      clear hb2
      obtain ⟨vd, vc, hVe⟩ : ∃ vd vc, V = .slice vd m vc := by
        obtain ⟨ad', c', hv⟩ := hV.done.slice
        refine ⟨ad', c', ?_⟩
        rw [hv, List.length_map, HM.out]
      subst hVe
      replace hV := Lib.hid (hV.low (base' := w.heap.size + 2) (by simp))
      have hJ : Is .J (fun b => w.heap.size + 2 ≤ b) w2 (d + 1) (jO (l.map fun x => (x.1, docJ i k x.2))) (.agg #[.int .i64 7, .string { data := #[] }, .slice vd m vc]) := ⟨.slice none 0 0, _, rfl, True.intro, hV.out.done⟩
      replace hJ := Lib.hid hJ
      go_wp2_with fail
      with_reducible refine (xone_nDoc _ (d + 1) _ (w.heap.size + 2) _ hJ.out (by omega)).mono ?_
      rintro e w3 ⟨⟨jv, rfl, hj2⟩, hb3⟩
      obtain ⟨c3_0, f3_0⟩ := cf hb3 w.heap.size 0 (.int .i64 3)
      obtain ⟨c3_1, f3_1⟩ := cf hb3 w.heap.size 1 (.int .u64 0)
      obtain ⟨c3_2, f3_2⟩ := cf hb3 w.heap.size 2 (.int .u64 0)
      obtain ⟨c3_3, f3_3⟩ := cf hb3 w.heap.size 3 (.int .u64 0)
      obtain ⟨c3_4, f3_4⟩ := cf hb3 w.heap.size 4 (.string { data := #[] })
      obtain ⟨c3_5, f3_5⟩ := cf hb3 w.heap.size 5 (.string { data := #[] })
      obtain ⟨c3_6, f3_6⟩ := cf hb3 w.heap.size 6 (.int .i64 0)
      obtain ⟨c3_7, f3_7⟩ := cf hb3 w.heap.size 7 (.slice bd 0 bc)
      obtain ⟨c3_8, f3_8⟩ := cf hb3 w.heap.size 8 (.slice (some ⟨b, o, none⟩) m c)
      obtain ⟨c3_9, f3_9⟩ := cf hb3 (w.heap.size + 1) 0 (.int .i64 0)
      obtain ⟨c3_10, f3_10⟩ := cf hb3 (w.heap.size + 1) 1 (.string { data := #[] })
      obtain ⟨c3_11, f3_11⟩ := cf hb3 (w.heap.size + 1) 2 (.slice none 0 0)
      have hl3_0 := ltB hb3 w.heap.size
      have hl3_1 := ltB hb3 (w.heap.size + 1)
      have hw3 := bwB hb3 w.heap.size w
      have hz3 := hw3.size
      clear hb3
      obtain ⟨jad2, jc2, hje⟩ := isJ_form hj2
      have hje2 : jv = .agg #[.int .i64 7, .string { data := #[] }, .slice jad2 1 jc2] := hje
      clear hje
      subst hje2
      go_wp2_with fail
      refine bodyPost_ret (v := .agg #[.int .i64 7, .string { data := #[] }, .slice jad2 1 jc2]) (by simp (maxDischargeDepth := 3) [results, Tryz.results109, go_sem, c3_9, c3_10, c3_11, f3_9, f3_10, f3_11]) rfl ?_
      exact ⟨⟨_, rfl, (((hj2.keeps (Keeps.setCell (p := ⟨w.heap.size + 1, 0, none⟩) (by show ¬ _ ≤ w.heap.size + 1; omega) _)).keeps (Keeps.setCell (p := ⟨w.heap.size + 1, 1, none⟩) (by show ¬ _ ≤ w.heap.size + 1; omega) _)).keeps (Keeps.setCell (p := ⟨w.heap.size + 1, 2, none⟩) (by show ¬ _ ≤ w.heap.size + 1; omega) _)).mono (fun b hb _ => by omega)⟩, bel⟩
end
end Go.Proofs.YtihnfhhopldllaaGreatDoor
