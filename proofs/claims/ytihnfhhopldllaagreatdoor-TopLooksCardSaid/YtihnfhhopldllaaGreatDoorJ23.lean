/- Parts of the proof of TopLooks: U17, U18, U19, U20. No condition. -/
import Derived.Test.YtihnfhhopldllaaGreatDoorJ1
import Derived.Test.YtihnfhhopldllaaGreatDoorJ21
namespace Go.Proofs.YtihnfhhopldllaaGreatDoor
set_option linter.unusedSimpArgs false
set_option linter.unusedVariables false
set_option maxHeartbeats 6400000
set_option maxRecDepth 100000
section
open Go.RowKit
def cVal (i : Ro) (k : Nat) (t : Ro) : Prop := ∀ (Q : Nat → Prop) (w : World) (v : Value), Is .V Q w k t v → Calls Tryz.prog 106 #[v] w fun e w' => (∃ jv, e = .returned jv ∧ Is .J (fun b => w.heap.size ≤ b) w' (2 * k + 1) (docJ i k t) jv) ∧ Below w.heap.size w w'
def cPl (i : Ro) (k : Nat) (l : KL) : Prop := ∀ (Q : Nat → Prop) (ad : Option Addr) (m c : Nat) (w : World), l.length = m → Kd .V Q w (k + 1) l (.slice ad m c) → Calls Tryz.prog 61 #[.slice ad m c] w fun e w' => (∃ V, e = .returned (.agg #[.int .i64 7, .string { data := #[] }, V]) ∧ Bd .J 166 w' w.heap.size (2 * k + 1) (l.map fun x => (x.1, docJ i k x.2)) V) ∧ Below w.heap.size w w'
theorem cpl_any {i : Ro} {k : Nat} {l : KL} (hl : l.length ≤ 20) (ih : ∀ x ∈ l, cVal i k x.2) : cPl i k l := fun Q ad m c w hm hk => cplain_any k (2 * k + 1) i l hl Q ad m c hm w hk (fun x hx Q w v h => ih x hx Q w v h)
theorem cval_D {i : Ro} {k : Nat} {l : KL} (hl : l.length ≤ 20) (ih : ∀ x ∈ l, cVal i k x.2) : cVal i (k + 1) (vD l) := fun Q w v h => by
  obtain ⟨bv, s, rfl, ⟨bd, bc, rfl, _⟩, hk⟩ := h
  obtain ⟨ad, c, rfl⟩ := hk.slice
  rw [docJ_vD]
  exact cvalue_3 k (2 * k + 1) i l Q bd bc ad l.length c rfl w hk (fun w h => cpl_any hl ih Q ad l.length c w rfl h)
theorem cval_A {i : Ro} {k : Nat} {l : KL} (hl : l.length ≤ 20) (ih : ∀ x ∈ l, cVal i k x.2) : cVal i (k + 1) (vA l) := fun Q w v h => by
  obtain ⟨bv, s, rfl, ⟨bd, bc, rfl, _⟩, hk⟩ := h
  obtain ⟨ad, c, rfl⟩ := hk.slice
  rw [docJ_vA]
  exact cvalue_4 k (2 * k + 1) i l hl Q bd bc ad l.length c rfl w hk (fun w h => cpl_any hl ih Q ad l.length c w rfl h)
def xVal (i : Ro) (k : Nat) (t : Ro) : Prop := ∀ (Q : Nat → Prop) (w : World) (v : Value), Is .V Q w k t v → Calls Tryz.prog 109 #[v] w fun e w' => (∃ jv, e = .returned jv ∧ Is .J (fun b => w.heap.size ≤ b) w' (2 * k + 1) (docJ i k t) jv) ∧ Below w.heap.size w w'
def xPl (i : Ro) (k : Nat) (l : KL) : Prop := ∀ (Q : Nat → Prop) (ad : Option Addr) (m c : Nat) (w : World), l.length = m → Kd .V Q w (k + 1) l (.slice ad m c) → Calls Tryz.prog 64 #[.slice ad m c] w fun e w' => (∃ V, e = .returned (.agg #[.int .i64 7, .string { data := #[] }, V]) ∧ Bd .J 166 w' w.heap.size (2 * k + 1) (l.map fun x => (x.1, docJ i k x.2)) V) ∧ Below w.heap.size w w'
theorem xpl_any {i : Ro} {k : Nat} {l : KL} (hl : l.length ≤ 20) (ih : ∀ x ∈ l, xVal i k x.2) : xPl i k l := fun Q ad m c w hm hk => xplain_any k (2 * k + 1) i l hl Q ad m c hm w hk (fun x hx Q w v h => ih x hx Q w v h)
theorem xval_D {i : Ro} {k : Nat} {l : KL} (hl : l.length ≤ 20) (ih : ∀ x ∈ l, xVal i k x.2) : xVal i (k + 1) (vD l) := fun Q w v h => by
  obtain ⟨bv, s, rfl, ⟨bd, bc, rfl, _⟩, hk⟩ := h
  obtain ⟨ad, c, rfl⟩ := hk.slice
  rw [docJ_vD]
  exact xvalue_3 k (2 * k + 1) i l Q bd bc ad l.length c rfl w hk (fun w h => xpl_any hl ih Q ad l.length c w rfl h)
theorem xval_A {i : Ro} {k : Nat} {l : KL} (hl : l.length ≤ 20) (ih : ∀ x ∈ l, xVal i k x.2) : xVal i (k + 1) (vA l) := fun Q w v h => by
  obtain ⟨bv, s, rfl, ⟨bd, bc, rfl, _⟩, hk⟩ := h
  obtain ⟨ad, c, rfl⟩ := hk.slice
  rw [docJ_vA]
  exact xvalue_4 k (2 * k + 1) i l hl Q bd bc ad l.length c rfl w hk (fun w h => xpl_any hl ih Q ad l.length c w rfl h)
theorem is_jS {B d : Nat} {w : World} {x : List UInt8} : Is .J (fun b => B ≤ b) w d (jS x) (.agg #[.int .i64 5, .string (bs x), .slice none 0 0]) :=
  ⟨.slice none 0 0, .slice none 0 0, rfl, True.intro, Kd.nil _ _ _ _ _ _⟩
theorem cval_S (i : Ro) (k : Nat) (x : List UInt8) : cVal i k (vS x) := fun Q w v h => by
  obtain ⟨bv, s, rfl, ⟨bd, bc, rfl, _⟩, hk⟩ := h
  obtain ⟨ad, c, rfl⟩ := hk.slice
  rw [docJ_vS]
  refine (cvalue_2 (bs x) bd bc ad c w).mono ?_
  rintro e w' ⟨rfl, hb⟩
  exact ⟨⟨_, rfl, is_jS⟩, hb⟩
theorem cval_str (i : Ro) : ∀ (k : Nat) (t : Ro), Dk k t → Sk k t → cVal i k t
  | 0, t, h, hs => by
    obtain ⟨x, rfl⟩ := hs
    exact cval_S i 0 x
  | k + 1, t, h, hs => by
    rcases hs with ⟨x, rfl⟩ | ⟨l, ht, hs⟩
    · exact cval_S i _ x
    · have hl : l.length ≤ 20 ∧ ∀ x ∈ l, Dk k x.2 := by
        rcases h with (⟨x, _, e⟩ | e) | ⟨l', e, h1, h2⟩
        · rcases ht with rfl | rfl <;> cases e
        · rcases ht with rfl | rfl <;> cases e
        · have : l' = l := by
            rcases ht with rfl | rfl <;> rcases e with e | e <;> first | (injection e with _ e; exact e.symm) | cases e
          subst this
          exact ⟨h1, fun x hx => (h2 x hx).2⟩
      rcases ht with rfl | rfl
      · exact cval_D hl.1 (fun x hx => cval_str i k x.2 (hl.2 x hx) (hs x hx))
      · exact cval_A hl.1 (fun x hx => cval_str i k x.2 (hl.2 x hx) (hs x hx))
end
section
open Go.RowKit
theorem cJSON_no (k : Nat) (l : KL) (Q : Nat → Prop) (w : World) (v : Value) (hd : Dk (k + 1) (vD l)) (hk : k ≤ 700) (h : Is .V Q w (k + 1) (vD l) v) (ho : okT (k + 1) [] (vD l) = false) :
    Calls Tryz.prog 34 #[v] w fun e w' => (∃ qa qn qc, e = .returned (.tuple #[.agg #[.int .i64 0, .string { data := #[] }, .slice none 0 0], .agg #[.int .i64 4, .int .i64 0, .slice qa qn qc]])) ∧ Below w.heap.size w w' := by
  have HI := Lib.hid h
  have HC := Lib.hid (fun w h => (tCheck_any (k + 1) (vD l) Q w v hd (by omega) h))
  rw [ho] at HC
  obtain ⟨bv, s, rfl, ⟨bd, bc, rfl, _⟩, hk2⟩ := h
  obtain ⟨ad, c, rfl⟩ := hk2.slice
  change Calls _ _ #[.agg #[.int .i64 3, .int .u64 0, .int .u64 0, .int .u64 0, .string { data := #[] }, .string { data := #[] }, .int .i64 0, .slice bd 0 bc, .slice ad l.length c]] _ _
  replace HC : Hid (∀ w, Is .V Q w (k + 1) (vD l) (.agg #[.int .i64 3, .int .u64 0, .int .u64 0, .int .u64 0, .string { data := #[] }, .string { data := #[] }, .int .i64 0, .slice bd 0 bc, .slice ad l.length c]) → Calls Tryz.prog 60 #[.agg #[.int .i64 3, .int .u64 0, .int .u64 0, .int .u64 0, .string { data := #[] }, .string { data := #[] }, .int .i64 0, .slice bd 0 bc, .slice ad l.length c]] w fun e w' => (∃ qa qn qc, e = .returned (.tuple #[.slice qa qn qc, .int .i64 4])) ∧ Below w.heap.size w w') := HC
  replace HI : Hid (Is .V Q w (k + 1) (vD l) (.agg #[.int .i64 3, .int .u64 0, .int .u64 0, .int .u64 0, .string { data := #[] }, .string { data := #[] }, .int .i64 0, .slice bd 0 bc, .slice ad l.length c])) := HI
  obtain ⟨m, hm⟩ : ∃ m, l.length = m := ⟨_, rfl⟩
  have hm' : (vD l).kids.length = m := hm
  rw [hm] at HC HI ⊢
  clear hk2 ho hd hm hm'
  go_enter Tryz.func34, Tryz.ntmps34
  go_wp2_with fail
  with_reducible refine (HC.out _ ?hc1).mono ?_
  case hc1 => exact HI.out.beyond bel
  rintro e w1 ⟨⟨qa, qn, qc, rfl⟩, hb1⟩
  obtain ⟨c1_0, f1_0⟩ := cf hb1 w.heap.size 0 (.int .i64 3)
  obtain ⟨c1_1, f1_1⟩ := cf hb1 w.heap.size 1 (.int .u64 0)
  obtain ⟨c1_2, f1_2⟩ := cf hb1 w.heap.size 2 (.int .u64 0)
  obtain ⟨c1_3, f1_3⟩ := cf hb1 w.heap.size 3 (.int .u64 0)
  obtain ⟨c1_4, f1_4⟩ := cf hb1 w.heap.size 4 (.string { data := #[] })
  obtain ⟨c1_5, f1_5⟩ := cf hb1 w.heap.size 5 (.string { data := #[] })
  obtain ⟨c1_6, f1_6⟩ := cf hb1 w.heap.size 6 (.int .i64 0)
  obtain ⟨c1_7, f1_7⟩ := cf hb1 w.heap.size 7 (.slice bd 0 bc)
  obtain ⟨c1_8, f1_8⟩ := cf hb1 w.heap.size 8 (.slice ad m c)
  obtain ⟨c1_9, f1_9⟩ := cf hb1 (w.heap.size + 1) 0 (.int .i64 0)
  obtain ⟨c1_10, f1_10⟩ := cf hb1 (w.heap.size + 1) 1 (.string { data := #[] })
  obtain ⟨c1_11, f1_11⟩ := cf hb1 (w.heap.size + 1) 2 (.slice none 0 0)
  obtain ⟨c1_12, f1_12⟩ := cf hb1 (w.heap.size + 2) 0 (.int .i64 0)
  obtain ⟨c1_13, f1_13⟩ := cf hb1 (w.heap.size + 2) 1 (.int .i64 0)
  obtain ⟨c1_14, f1_14⟩ := cf hb1 (w.heap.size + 2) 2 (.slice none 0 0)
  have hl1_0 := ltB hb1 w.heap.size
  have hl1_1 := ltB hb1 (w.heap.size + 1)
  have hl1_2 := ltB hb1 (w.heap.size + 2)
  have hw1 := bwB hb1 w.heap.size w
  have hz1 := hw1.size
  clear hb1
  go_wp2_with fail
  refine bodyPost_ret (v := .tuple #[.agg #[.int .i64 0, .string { data := #[] }, .slice none 0 0], .agg #[.int .i64 4, .int .i64 0, .slice qa qn qc]]) (by simp (maxDischargeDepth := 4) [results, Tryz.results34, go_sem, c1_9, c1_10, c1_11, c1_12, c1_13, c1_14, f1_9, f1_10, f1_11, f1_12, f1_13, f1_14]) rfl ?_
  exact ⟨⟨_, _, _, rfl⟩, bel⟩
theorem cJSON_yes (i : Ro) (k : Nat) (l : KL) (Q : Nat → Prop) (w : World) (v : Value) (hd : Dk (k + 1) (vD l)) (hk : k ≤ 700) (h : Is .V Q w (k + 1) (vD l) v) (ho : okT (k + 1) [] (vD l) = true) (hp : cPl i k l) :
    Calls Tryz.prog 34 #[v] w fun e w' => (∃ V, e = .returned (.tuple #[.agg #[.int .i64 7, .string { data := #[] }, V], .agg #[.int .i64 0, .int .i64 0, .slice none 0 0]]) ∧ Bd .J 166 w' w.heap.size (2 * k + 1) (l.map fun x => (x.1, docJ i k x.2)) V) ∧ Below w.heap.size w w' := by
  have HI := Lib.hid h
  have HC := Lib.hid (fun w h => (tCheck_any (k + 1) (vD l) Q w v hd (by omega) h))
  rw [ho] at HC
  obtain ⟨bv, s, rfl, ⟨bd, bc, rfl, _⟩, hk2⟩ := h
  obtain ⟨ad, c, rfl⟩ := hk2.slice
  change Calls _ _ #[.agg #[.int .i64 3, .int .u64 0, .int .u64 0, .int .u64 0, .string { data := #[] }, .string { data := #[] }, .int .i64 0, .slice bd 0 bc, .slice ad l.length c]] _ _
  replace HC : Hid (∀ w, Is .V Q w (k + 1) (vD l) (.agg #[.int .i64 3, .int .u64 0, .int .u64 0, .int .u64 0, .string { data := #[] }, .string { data := #[] }, .int .i64 0, .slice bd 0 bc, .slice ad l.length c]) → Calls Tryz.prog 60 #[.agg #[.int .i64 3, .int .u64 0, .int .u64 0, .int .u64 0, .string { data := #[] }, .string { data := #[] }, .int .i64 0, .slice bd 0 bc, .slice ad l.length c]] w fun e w' => (∃ qa qn qc, e = .returned (.tuple #[.slice qa qn qc, .int .i64 0])) ∧ Below w.heap.size w w') := HC
  replace HI : Hid (Is .V Q w (k + 1) (vD l) (.agg #[.int .i64 3, .int .u64 0, .int .u64 0, .int .u64 0, .string { data := #[] }, .string { data := #[] }, .int .i64 0, .slice bd 0 bc, .slice ad l.length c])) := HI
  have HK : Hid (Kd .V Q w (k + 1) l (.slice ad l.length c)) := Lib.hid hk2
  unfold cPl at hp
  have HP := Lib.hid hp
  obtain ⟨m, hm⟩ : ∃ m, l.length = m := ⟨_, rfl⟩
  have HM := Lib.hid hm
  rw [hm] at HC HI HK ⊢
  clear hk2 ho hd hm hp
  go_enter Tryz.func34, Tryz.ntmps34
  go_wp2_with fail
  with_reducible refine (HC.out _ ?hc2).mono ?_
  case hc2 => exact HI.out.beyond bel
  rintro e w1 ⟨⟨qa, qn, qc, rfl⟩, hb1⟩
  obtain ⟨c1_0, f1_0⟩ := cf hb1 w.heap.size 0 (.int .i64 3)
  obtain ⟨c1_1, f1_1⟩ := cf hb1 w.heap.size 1 (.int .u64 0)
  obtain ⟨c1_2, f1_2⟩ := cf hb1 w.heap.size 2 (.int .u64 0)
  obtain ⟨c1_3, f1_3⟩ := cf hb1 w.heap.size 3 (.int .u64 0)
  obtain ⟨c1_4, f1_4⟩ := cf hb1 w.heap.size 4 (.string { data := #[] })
  obtain ⟨c1_5, f1_5⟩ := cf hb1 w.heap.size 5 (.string { data := #[] })
  obtain ⟨c1_6, f1_6⟩ := cf hb1 w.heap.size 6 (.int .i64 0)
  obtain ⟨c1_7, f1_7⟩ := cf hb1 w.heap.size 7 (.slice bd 0 bc)
  obtain ⟨c1_8, f1_8⟩ := cf hb1 w.heap.size 8 (.slice ad m c)
  obtain ⟨c1_9, f1_9⟩ := cf hb1 (w.heap.size + 1) 0 (.int .i64 0)
  obtain ⟨c1_10, f1_10⟩ := cf hb1 (w.heap.size + 1) 1 (.string { data := #[] })
  obtain ⟨c1_11, f1_11⟩ := cf hb1 (w.heap.size + 1) 2 (.slice none 0 0)
  obtain ⟨c1_12, f1_12⟩ := cf hb1 (w.heap.size + 2) 0 (.int .i64 0)
  obtain ⟨c1_13, f1_13⟩ := cf hb1 (w.heap.size + 2) 1 (.int .i64 0)
  obtain ⟨c1_14, f1_14⟩ := cf hb1 (w.heap.size + 2) 2 (.slice none 0 0)
  have hl1_0 := ltB hb1 w.heap.size
  have hl1_1 := ltB hb1 (w.heap.size + 1)
  have hl1_2 := ltB hb1 (w.heap.size + 2)
  have hw1 := bwB hb1 w.heap.size w
  have hz1 := hw1.size
  clear hb1
  go_wp2_with fail
  with_reducible refine (HP.out Q ad m c _ HM.out ?hp1).mono ?_
  case hp1 => exact HK.out.beyond bel
  rintro e w2 ⟨⟨V, rfl, hV⟩, hb2⟩
  obtain ⟨c2_0, f2_0⟩ := cf hb2 w.heap.size 0 (.int .i64 3)
  obtain ⟨c2_1, f2_1⟩ := cf hb2 w.heap.size 1 (.int .u64 0)
  obtain ⟨c2_2, f2_2⟩ := cf hb2 w.heap.size 2 (.int .u64 0)
  obtain ⟨c2_3, f2_3⟩ := cf hb2 w.heap.size 3 (.int .u64 0)
  obtain ⟨c2_4, f2_4⟩ := cf hb2 w.heap.size 4 (.string { data := #[] })
  obtain ⟨c2_5, f2_5⟩ := cf hb2 w.heap.size 5 (.string { data := #[] })
  obtain ⟨c2_6, f2_6⟩ := cf hb2 w.heap.size 6 (.int .i64 0)
  obtain ⟨c2_7, f2_7⟩ := cf hb2 w.heap.size 7 (.slice bd 0 bc)
  obtain ⟨c2_8, f2_8⟩ := cf hb2 w.heap.size 8 (.slice ad m c)
  obtain ⟨c2_9, f2_9⟩ := cf hb2 (w.heap.size + 1) 0 (.int .i64 0)
  obtain ⟨c2_10, f2_10⟩ := cf hb2 (w.heap.size + 1) 1 (.string { data := #[] })
  obtain ⟨c2_11, f2_11⟩ := cf hb2 (w.heap.size + 1) 2 (.slice none 0 0)
  obtain ⟨c2_12, f2_12⟩ := cf hb2 (w.heap.size + 2) 0 (.int .i64 0)
  obtain ⟨c2_13, f2_13⟩ := cf hb2 (w.heap.size + 2) 1 (.int .i64 0)
  obtain ⟨c2_14, f2_14⟩ := cf hb2 (w.heap.size + 2) 2 (.slice none 0 0)
  have hl2_0 := ltB hb2 w.heap.size
  have hl2_1 := ltB hb2 (w.heap.size + 1)
  have hl2_2 := ltB hb2 (w.heap.size + 2)
  have hw2 := bwB hb2 w.heap.size w
  have hz2 := hw2.size
  clear hb2
  obtain ⟨vd, vc, hVe⟩ : ∃ vd vc, V = .slice vd m vc := by
    obtain ⟨ad', c', hv⟩ := hV.done.slice
    refine ⟨ad', c', ?_⟩
    rw [hv, List.length_map, HM.out]
  subst hVe
  replace hV := Lib.hid (hV.low (base' := w.heap.size + 3) (by have := hz1; simp at *; omega))
  go_wp2_with fail
  refine bodyPost_ret (v := .tuple #[.agg #[.int .i64 7, .string { data := #[] }, .slice vd m vc], .agg #[.int .i64 0, .int .i64 0, .slice none 0 0]]) (by simp (maxDischargeDepth := 4) [results, Tryz.results34, go_sem, c2_9, c2_10, c2_11, c2_12, c2_13, c2_14, f2_9, f2_10, f2_11, f2_12, f2_13, f2_14]) rfl ?_
  exact ⟨⟨_, rfl, ((((((hV.out.set (p := ⟨w.heap.size + 1, 0, none⟩) (by show w.heap.size + 1 < w.heap.size + 3; omega) _).set (p := ⟨w.heap.size + 1, 1, none⟩) (by show w.heap.size + 1 < w.heap.size + 3; omega) _).set (p := ⟨w.heap.size + 1, 2, none⟩) (by show w.heap.size + 1 < w.heap.size + 3; omega) _).set (p := ⟨w.heap.size + 1 + 1, 0, none⟩) (by show w.heap.size + 1 + 1 < w.heap.size + 3; omega) _).set (p := ⟨w.heap.size + 1 + 1, 1, none⟩) (by show w.heap.size + 1 + 1 < w.heap.size + 3; omega) _).set (p := ⟨w.heap.size + 1 + 1, 2, none⟩) (by show w.heap.size + 1 + 1 < w.heap.size + 3; omega) _).low (by omega)⟩, bel⟩
theorem xJSON_no (k : Nat) (l : KL) (Q : Nat → Prop) (w : World) (v : Value) (hd : Dk (k + 1) (vD l)) (hk : k ≤ 700) (h : Is .V Q w (k + 1) (vD l) v) (ho : okT (k + 1) [] (vD l) = false) :
    Calls Tryz.prog 36 #[v] w fun e w' => (∃ qa qn qc, e = .returned (.tuple #[.agg #[.int .i64 0, .string { data := #[] }, .slice none 0 0], .agg #[.int .i64 4, .int .i64 0, .slice qa qn qc]])) ∧ Below w.heap.size w w' := by
  have HI := Lib.hid h
  have HC := Lib.hid (fun w h => (tCheck_any (k + 1) (vD l) Q w v hd (by omega) h))
  rw [ho] at HC
  obtain ⟨bv, s, rfl, ⟨bd, bc, rfl, _⟩, hk2⟩ := h
  obtain ⟨ad, c, rfl⟩ := hk2.slice
  change Calls _ _ #[.agg #[.int .i64 3, .int .u64 0, .int .u64 0, .int .u64 0, .string { data := #[] }, .string { data := #[] }, .int .i64 0, .slice bd 0 bc, .slice ad l.length c]] _ _
  replace HC : Hid (∀ w, Is .V Q w (k + 1) (vD l) (.agg #[.int .i64 3, .int .u64 0, .int .u64 0, .int .u64 0, .string { data := #[] }, .string { data := #[] }, .int .i64 0, .slice bd 0 bc, .slice ad l.length c]) → Calls Tryz.prog 60 #[.agg #[.int .i64 3, .int .u64 0, .int .u64 0, .int .u64 0, .string { data := #[] }, .string { data := #[] }, .int .i64 0, .slice bd 0 bc, .slice ad l.length c]] w fun e w' => (∃ qa qn qc, e = .returned (.tuple #[.slice qa qn qc, .int .i64 4])) ∧ Below w.heap.size w w') := HC
  replace HI : Hid (Is .V Q w (k + 1) (vD l) (.agg #[.int .i64 3, .int .u64 0, .int .u64 0, .int .u64 0, .string { data := #[] }, .string { data := #[] }, .int .i64 0, .slice bd 0 bc, .slice ad l.length c])) := HI
  obtain ⟨m, hm⟩ : ∃ m, l.length = m := ⟨_, rfl⟩
  have hm' : (vD l).kids.length = m := hm
  rw [hm] at HC HI ⊢
  clear hk2 ho hd hm hm'
  go_enter Tryz.func36, Tryz.ntmps36
  go_wp2_with fail
  with_reducible refine (HC.out _ ?hc1).mono ?_
  case hc1 => exact HI.out.beyond bel
  rintro e w1 ⟨⟨qa, qn, qc, rfl⟩, hb1⟩
  obtain ⟨c1_0, f1_0⟩ := cf hb1 w.heap.size 0 (.int .i64 3)
  obtain ⟨c1_1, f1_1⟩ := cf hb1 w.heap.size 1 (.int .u64 0)
  obtain ⟨c1_2, f1_2⟩ := cf hb1 w.heap.size 2 (.int .u64 0)
  obtain ⟨c1_3, f1_3⟩ := cf hb1 w.heap.size 3 (.int .u64 0)
  obtain ⟨c1_4, f1_4⟩ := cf hb1 w.heap.size 4 (.string { data := #[] })
  obtain ⟨c1_5, f1_5⟩ := cf hb1 w.heap.size 5 (.string { data := #[] })
  obtain ⟨c1_6, f1_6⟩ := cf hb1 w.heap.size 6 (.int .i64 0)
  obtain ⟨c1_7, f1_7⟩ := cf hb1 w.heap.size 7 (.slice bd 0 bc)
  obtain ⟨c1_8, f1_8⟩ := cf hb1 w.heap.size 8 (.slice ad m c)
  obtain ⟨c1_9, f1_9⟩ := cf hb1 (w.heap.size + 1) 0 (.int .i64 0)
  obtain ⟨c1_10, f1_10⟩ := cf hb1 (w.heap.size + 1) 1 (.string { data := #[] })
  obtain ⟨c1_11, f1_11⟩ := cf hb1 (w.heap.size + 1) 2 (.slice none 0 0)
  obtain ⟨c1_12, f1_12⟩ := cf hb1 (w.heap.size + 2) 0 (.int .i64 0)
  obtain ⟨c1_13, f1_13⟩ := cf hb1 (w.heap.size + 2) 1 (.int .i64 0)
  obtain ⟨c1_14, f1_14⟩ := cf hb1 (w.heap.size + 2) 2 (.slice none 0 0)
  have hl1_0 := ltB hb1 w.heap.size
  have hl1_1 := ltB hb1 (w.heap.size + 1)
  have hl1_2 := ltB hb1 (w.heap.size + 2)
  have hw1 := bwB hb1 w.heap.size w
  have hz1 := hw1.size
  clear hb1
  go_wp2_with fail
  refine bodyPost_ret (v := .tuple #[.agg #[.int .i64 0, .string { data := #[] }, .slice none 0 0], .agg #[.int .i64 4, .int .i64 0, .slice qa qn qc]]) (by simp (maxDischargeDepth := 4) [results, Tryz.results36, go_sem, c1_9, c1_10, c1_11, c1_12, c1_13, c1_14, f1_9, f1_10, f1_11, f1_12, f1_13, f1_14]) rfl ?_
  exact ⟨⟨_, _, _, rfl⟩, bel⟩
theorem xJSON_yes (i : Ro) (k : Nat) (l : KL) (Q : Nat → Prop) (w : World) (v : Value) (hd : Dk (k + 1) (vD l)) (hk : k ≤ 700) (h : Is .V Q w (k + 1) (vD l) v) (ho : okT (k + 1) [] (vD l) = true) (hp : xPl i k l) :
    Calls Tryz.prog 36 #[v] w fun e w' => (∃ V, e = .returned (.tuple #[.agg #[.int .i64 7, .string { data := #[] }, V], .agg #[.int .i64 0, .int .i64 0, .slice none 0 0]]) ∧ Bd .J 166 w' w.heap.size (2 * k + 1) (l.map fun x => (x.1, docJ i k x.2)) V) ∧ Below w.heap.size w w' := by
  have HI := Lib.hid h
  have HC := Lib.hid (fun w h => (tCheck_any (k + 1) (vD l) Q w v hd (by omega) h))
  rw [ho] at HC
  obtain ⟨bv, s, rfl, ⟨bd, bc, rfl, _⟩, hk2⟩ := h
  obtain ⟨ad, c, rfl⟩ := hk2.slice
  change Calls _ _ #[.agg #[.int .i64 3, .int .u64 0, .int .u64 0, .int .u64 0, .string { data := #[] }, .string { data := #[] }, .int .i64 0, .slice bd 0 bc, .slice ad l.length c]] _ _
  replace HC : Hid (∀ w, Is .V Q w (k + 1) (vD l) (.agg #[.int .i64 3, .int .u64 0, .int .u64 0, .int .u64 0, .string { data := #[] }, .string { data := #[] }, .int .i64 0, .slice bd 0 bc, .slice ad l.length c]) → Calls Tryz.prog 60 #[.agg #[.int .i64 3, .int .u64 0, .int .u64 0, .int .u64 0, .string { data := #[] }, .string { data := #[] }, .int .i64 0, .slice bd 0 bc, .slice ad l.length c]] w fun e w' => (∃ qa qn qc, e = .returned (.tuple #[.slice qa qn qc, .int .i64 0])) ∧ Below w.heap.size w w') := HC
  replace HI : Hid (Is .V Q w (k + 1) (vD l) (.agg #[.int .i64 3, .int .u64 0, .int .u64 0, .int .u64 0, .string { data := #[] }, .string { data := #[] }, .int .i64 0, .slice bd 0 bc, .slice ad l.length c])) := HI
  have HK : Hid (Kd .V Q w (k + 1) l (.slice ad l.length c)) := Lib.hid hk2
  unfold xPl at hp
  have HP := Lib.hid hp
  obtain ⟨m, hm⟩ : ∃ m, l.length = m := ⟨_, rfl⟩
  have HM := Lib.hid hm
  rw [hm] at HC HI HK ⊢
  clear hk2 ho hd hm hp
  go_enter Tryz.func36, Tryz.ntmps36
  go_wp2_with fail
  with_reducible refine (HC.out _ ?hc2).mono ?_
  case hc2 => exact HI.out.beyond bel
  rintro e w1 ⟨⟨qa, qn, qc, rfl⟩, hb1⟩
  obtain ⟨c1_0, f1_0⟩ := cf hb1 w.heap.size 0 (.int .i64 3)
  obtain ⟨c1_1, f1_1⟩ := cf hb1 w.heap.size 1 (.int .u64 0)
  obtain ⟨c1_2, f1_2⟩ := cf hb1 w.heap.size 2 (.int .u64 0)
  obtain ⟨c1_3, f1_3⟩ := cf hb1 w.heap.size 3 (.int .u64 0)
  obtain ⟨c1_4, f1_4⟩ := cf hb1 w.heap.size 4 (.string { data := #[] })
  obtain ⟨c1_5, f1_5⟩ := cf hb1 w.heap.size 5 (.string { data := #[] })
  obtain ⟨c1_6, f1_6⟩ := cf hb1 w.heap.size 6 (.int .i64 0)
  obtain ⟨c1_7, f1_7⟩ := cf hb1 w.heap.size 7 (.slice bd 0 bc)
  obtain ⟨c1_8, f1_8⟩ := cf hb1 w.heap.size 8 (.slice ad m c)
  obtain ⟨c1_9, f1_9⟩ := cf hb1 (w.heap.size + 1) 0 (.int .i64 0)
  obtain ⟨c1_10, f1_10⟩ := cf hb1 (w.heap.size + 1) 1 (.string { data := #[] })
  obtain ⟨c1_11, f1_11⟩ := cf hb1 (w.heap.size + 1) 2 (.slice none 0 0)
  obtain ⟨c1_12, f1_12⟩ := cf hb1 (w.heap.size + 2) 0 (.int .i64 0)
  obtain ⟨c1_13, f1_13⟩ := cf hb1 (w.heap.size + 2) 1 (.int .i64 0)
  obtain ⟨c1_14, f1_14⟩ := cf hb1 (w.heap.size + 2) 2 (.slice none 0 0)
  have hl1_0 := ltB hb1 w.heap.size
  have hl1_1 := ltB hb1 (w.heap.size + 1)
  have hl1_2 := ltB hb1 (w.heap.size + 2)
  have hw1 := bwB hb1 w.heap.size w
  have hz1 := hw1.size
  clear hb1
  go_wp2_with fail
  with_reducible refine (HP.out Q ad m c _ HM.out ?hp1).mono ?_
  case hp1 => exact HK.out.beyond bel
  rintro e w2 ⟨⟨V, rfl, hV⟩, hb2⟩
  obtain ⟨c2_0, f2_0⟩ := cf hb2 w.heap.size 0 (.int .i64 3)
  obtain ⟨c2_1, f2_1⟩ := cf hb2 w.heap.size 1 (.int .u64 0)
  obtain ⟨c2_2, f2_2⟩ := cf hb2 w.heap.size 2 (.int .u64 0)
  obtain ⟨c2_3, f2_3⟩ := cf hb2 w.heap.size 3 (.int .u64 0)
  obtain ⟨c2_4, f2_4⟩ := cf hb2 w.heap.size 4 (.string { data := #[] })
  obtain ⟨c2_5, f2_5⟩ := cf hb2 w.heap.size 5 (.string { data := #[] })
  obtain ⟨c2_6, f2_6⟩ := cf hb2 w.heap.size 6 (.int .i64 0)
  obtain ⟨c2_7, f2_7⟩ := cf hb2 w.heap.size 7 (.slice bd 0 bc)
  obtain ⟨c2_8, f2_8⟩ := cf hb2 w.heap.size 8 (.slice ad m c)
  obtain ⟨c2_9, f2_9⟩ := cf hb2 (w.heap.size + 1) 0 (.int .i64 0)
  obtain ⟨c2_10, f2_10⟩ := cf hb2 (w.heap.size + 1) 1 (.string { data := #[] })
  obtain ⟨c2_11, f2_11⟩ := cf hb2 (w.heap.size + 1) 2 (.slice none 0 0)
  obtain ⟨c2_12, f2_12⟩ := cf hb2 (w.heap.size + 2) 0 (.int .i64 0)
  obtain ⟨c2_13, f2_13⟩ := cf hb2 (w.heap.size + 2) 1 (.int .i64 0)
  obtain ⟨c2_14, f2_14⟩ := cf hb2 (w.heap.size + 2) 2 (.slice none 0 0)
  have hl2_0 := ltB hb2 w.heap.size
  have hl2_1 := ltB hb2 (w.heap.size + 1)
  have hl2_2 := ltB hb2 (w.heap.size + 2)
  have hw2 := bwB hb2 w.heap.size w
  have hz2 := hw2.size
  clear hb2
  obtain ⟨vd, vc, hVe⟩ : ∃ vd vc, V = .slice vd m vc := by
    obtain ⟨ad', c', hv⟩ := hV.done.slice
    refine ⟨ad', c', ?_⟩
    rw [hv, List.length_map, HM.out]
  subst hVe
  replace hV := Lib.hid (hV.low (base' := w.heap.size + 3) (by have := hz1; simp at *; omega))
  go_wp2_with fail
  refine bodyPost_ret (v := .tuple #[.agg #[.int .i64 7, .string { data := #[] }, .slice vd m vc], .agg #[.int .i64 0, .int .i64 0, .slice none 0 0]]) (by simp (maxDischargeDepth := 4) [results, Tryz.results36, go_sem, c2_9, c2_10, c2_11, c2_12, c2_13, c2_14, f2_9, f2_10, f2_11, f2_12, f2_13, f2_14]) rfl ?_
  exact ⟨⟨_, rfl, ((((((hV.out.set (p := ⟨w.heap.size + 1, 0, none⟩) (by show w.heap.size + 1 < w.heap.size + 3; omega) _).set (p := ⟨w.heap.size + 1, 1, none⟩) (by show w.heap.size + 1 < w.heap.size + 3; omega) _).set (p := ⟨w.heap.size + 1, 2, none⟩) (by show w.heap.size + 1 < w.heap.size + 3; omega) _).set (p := ⟨w.heap.size + 1 + 1, 0, none⟩) (by show w.heap.size + 1 + 1 < w.heap.size + 3; omega) _).set (p := ⟨w.heap.size + 1 + 1, 1, none⟩) (by show w.heap.size + 1 + 1 < w.heap.size + 3; omega) _).set (p := ⟨w.heap.size + 1 + 1, 2, none⟩) (by show w.heap.size + 1 + 1 < w.heap.size + 3; omega) _).low (by omega)⟩, bel⟩
end
section
open Go.RowKit
theorem str_full {a : ByteArray} (h : ¬ a = { data := #[] }) : a.toList.isEmpty = false := by
  rw [ByteArray.toList_eq]
  cases hc : a.data.toList with
  | nil =>
    exfalso
    refine h (ByteArray.ext (Array.toList_inj.1 ?_))
    rw [hc]
  | cons => rfl
theorem rowJ {w : World} {b o K : Nat} {nm : List UInt8} {t : Own} {bv s : Value} (h : w.rangeAt b (o + Lay.wid .J * K) (Lay.row .J nm t bv s)) :
    w.cell? ⟨b, o + K * 4, none⟩ = some (.string (bs nm)) ∧ w.cell? ⟨b, o + K * 4 + 1, none⟩ = some (.int .i64 t.kind) ∧ w.cell? ⟨b, o + K * 4 + 2, none⟩ = some (.string (bs t.text)) ∧ w.cell? ⟨b, o + K * 4 + 3, none⟩ = some s := by
  have e : o + Lay.wid .J * K = o + K * 4 := by show o + 4 * K = _; omega
  rw [e] at h
  exact ⟨h 0 _ rfl, h 1 _ rfl, h 2 _ rfl, h 3 _ rfl⟩
theorem jcheck_5 (x : List UInt8) (hx : x.length ≤ 1000) (hw : Wh x) (ad : Option Addr) (c : Nat) (w : World) : Calls Tryz.prog 62 #[.agg #[.int .i64 5, .string (bs x), .slice ad 0 c]] w fun e w' => e = .returned (.int .i64 0) ∧ Below w.heap.size w w' := by
  have H1 := fun w => is1_any (bs x) (by rw [bs_size]; omega) w
  rw [bs_list, decide_eq_true hw] at H1
  have H1 := Lib.hid H1
  clear hw
  obtain ⟨T, hT⟩ : ∃ T, bs x = T := ⟨_, rfl⟩
  rw [hT] at H1 ⊢
  clear hT
  by_cases he : T = { data := #[] }
  · subst he
    go_enter Tryz.func62, Tryz.ntmps62
    go_wp2_with fail
    go_loopw [49] (fun x wr => x = .int .i64 0 ∧ wr = w.alloc (.cells #[.int .i64 5, .string { data := #[] }, .slice ad 0 c] 77)) (fun _ _ => 0)
    case atStart => exact ⟨rfl, rfl⟩
    case round =>
      obtain ⟨rfl, rfl⟩ := hrel
      go_wp2_with fail
      with_reducible refine (H1.out _).mono ?_
      rintro e w1 ⟨rfl, hb1⟩
      have hw1 := bwB hb1 w.heap.size w
      have k2 := cB hb1 w.heap.size 2 (.slice ad 0 c)
      clear hb1
      go_wp2_with fail
      go_loopw [89] (fun x wr => x = .int .i64 0 ∧ wr = w1) (fun _ _ => 0)
      case atStart => exact ⟨rfl, rfl⟩
      case round =>
        obtain ⟨rfl, rfl⟩ := hrel
        go_wp2_with fail
        go_ret
        exact ⟨rfl, hw1⟩
  · have hne : T.toList.isEmpty = false := str_full he
    go_enter Tryz.func62, Tryz.ntmps62
    go_wp2_with fail
    go_loopw [49] (fun x wr => x = .int .i64 0 ∧ wr = w.alloc (.cells #[.int .i64 5, .string T, .slice ad 0 c] 77)) (fun _ _ => 0)
    case atStart => exact ⟨rfl, rfl⟩
    case round =>
      obtain ⟨rfl, rfl⟩ := hrel
      go_wp2_with fail
      with_reducible refine (H1.out _).mono ?_
      rintro e w1 ⟨rfl, hb1⟩
      have hw1 := bwB hb1 w.heap.size w
      have k2 := cB hb1 w.heap.size 2 (.slice ad 0 c)
      clear hb1
      go_wp2_with fail
      go_loopw [89] (fun x wr => x = .int .i64 0 ∧ wr = w1) (fun _ _ => 0)
      case atStart => exact ⟨rfl, rfl⟩
      case round =>
        obtain ⟨rfl, rfl⟩ := hrel
        go_wp2_with fail
        go_ret
        exact ⟨rfl, hw1⟩
theorem jcheck_7 (k : Nat) (l : KL) (hl : l.length ≤ 20) (Q : Nat → Prop) (ad : Option Addr) (m c : Nat) (hm : l.length = m) (w : World) (hk : Kd .J Q w (k + 1) l (.slice ad m c)) (hnm : ∀ x ∈ l, x.1.length ≤ 200 ∧ Wh x.1)
    (ih : ∀ x ∈ l, ∀ (Q : Nat → Prop) (w : World) (v : Value), Is .J Q w k x.2 v → Calls Tryz.prog 62 #[v] w fun e w' => e = .returned (.int .i64 0) ∧ Below w.heap.size w w') :
    Calls Tryz.prog 62 #[.agg #[.int .i64 7, .string { data := #[] }, .slice ad m c]] w fun e w' => e = .returned (.int .i64 0) ∧ Below w.heap.size w w' := by
  have HK := Lib.hid hk
  have HI := Lib.hid ih
  have HM := Lib.hid hm
  have HNM := Lib.hid hnm
  have hm20 : m ≤ 20 := by omega
  clear hk ih hm hl hnm
  cases hb : decide (0 < m)
  all_goals
   go_enter Tryz.func62, Tryz.ntmps62
   go_wp2_with fail
   go_loopw [49] (fun x wr => ∃ K, K ≤ m ∧ x = .int .i64 K ∧ wr.cell? ⟨w.heap.size, 0, none⟩ = some (.int .i64 7) ∧ wr.cell? ⟨w.heap.size, 1, none⟩ = some (.string { data := #[] }) ∧ wr.cell? ⟨w.heap.size, 2, none⟩ = some (.slice ad m c) ∧ w.heap.size < wr.heap.size ∧ Below w.heap.size w wr) (fun x _ => m - (intOf x).toNat)
   case atStart => refine ⟨0, Nat.zero_le _, rfl, ?_, ?_, ?_, ?_, ?_⟩ <;> first | (simp [go_sem]; done) | (exact bel)
   case round =>
     obtain ⟨K, hK, rfl, q0, q1, q2, hlt, hw⟩ := hrel
     have hzw := hw.size
     by_cases hKm : K < m
     · obtain ⟨⟨kn, kx⟩, hkx⟩ : ∃ x, l[K]? = some x := ⟨_, List.getElem?_eq_getElem (by have := HM.out; omega)⟩
       obtain ⟨b, o, bv, s, rfl, hqb, hbl, hra, hby, hkd⟩ := HK.out.at hkx
       have hblk : wr.heap[b]? = w.heap[b]? := hw.block b hbl
       obtain ⟨sd, sc, rfl⟩ := hkd.slice
       obtain ⟨r0, r1, r2, r3⟩ := rowJ (rangeAt_block hblk hra)
       have hnm := HNM.out
       generalize bs kn = V0 at *
       generalize kx.o.kind = V1 at *
       generalize bs kx.o.text = V2 at *
       generalize kx.kids.length = V3 at *
       clear hra hkd hblk hkx hby hnm
       go_wp2_with fail
       go_roundw
       case rel => refine ⟨K + 1, by omega, by go_num, ?_, ?_, ?_, ?_, ?_⟩ <;> first | (simp [go_sem, *]; done) | (exact bel)
       case measure => simp [intOf]; omega
     · have hKe : K = m := by omega
       subst hKe
       have hw1 := hw
       have hlt1 := hlt
       obtain ⟨m', hm'⟩ : ∃ m', m' = K := ⟨_, rfl⟩
       clear hKm hK
       go_wp2_with fail
       go_loopw [89] (fun x wr => ∃ K, K ≤ m' ∧ x = .int .i64 K ∧ wr.cell? ⟨w.heap.size, 0, none⟩ = some (.int .i64 7) ∧ wr.cell? ⟨w.heap.size, 1, none⟩ = some (.string { data := #[] }) ∧ wr.cell? ⟨w.heap.size, 2, none⟩ = some (.slice ad m' c) ∧ w.heap.size < wr.heap.size ∧ Below w.heap.size w wr) (fun x _ => m' - (intOf x).toNat)
       case atStart => refine ⟨0, Nat.zero_le _, rfl, ?_, ?_, ?_, ?_, ?_⟩ <;> first | assumption | (simp [go_sem, *]; done) | (exact bel)
       case round =>
         obtain ⟨K, hK, rfl, q0, q1, q2, hlt, hw⟩ := hrel
         have hzw := hw.size
         by_cases hKm : K < m'
         · obtain ⟨⟨kn, kx⟩, hkx⟩ : ∃ x, l[K]? = some x := ⟨_, List.getElem?_eq_getElem (by have := HM.out; omega)⟩
           obtain ⟨b, o, bv, s, rfl, hqb, hbl, hra, hby, hkd⟩ := HK.out.at hkx
           have hblk : wr.heap[b]? = w.heap[b]? := hw.block b hbl
           obtain ⟨sd, sc, rfl⟩ := hkd.slice
           obtain ⟨r0, r1, r2, r3⟩ := rowJ (rangeAt_block hblk hra)
           have hnm := HNM.out
           have hWN : Wh kn := (hnm _ (List.mem_of_getElem? hkx)).2
           have hLN : kn.length ≤ 200 := (hnm _ (List.mem_of_getElem? hkx)).1
           have H1 := fun w => is1_any (bs kn) (by rw [bs_size]; omega) w
           rw [bs_list, decide_eq_true hWN] at H1
           have H1 := Lib.hid H1
           have HIx := Lib.hid (HI.out _ (List.mem_of_getElem? hkx) Q)
           have KQ : Hid (∀ w6 : World, Below w.heap.size w w6 → Is .J Q w6 k kx (.agg #[.int .i64 kx.o.kind, .string (bs kx.o.text), .slice sd kx.kids.length sc])) := Lib.hid (fun w6 h6 => Is.beyond (w := w) ⟨.slice none 0 0, _, rfl, True.intro, hkd⟩ h6)
           obtain ⟨V1, hV1⟩ : ∃ x, kx.o.kind = x := ⟨_, rfl⟩
           obtain ⟨V2, hV2⟩ : ∃ x, bs kx.o.text = x := ⟨_, rfl⟩
           obtain ⟨V3, hV3⟩ : ∃ x, kx.kids.length = x := ⟨_, rfl⟩
           rw [hV1] at r1 KQ
           rw [hV2] at r2 KQ
           rw [hV3] at r3 KQ
           generalize bs kn = V0 at *
           clear hra hkd hblk hkx hby hnm hWN hLN hV1 hV2 hV3
           go_wp2_with fail
           with_reducible refine (H1.out _).mono ?_
           rintro e w5 ⟨rfl, hb5⟩
           have s1 := cB hb5 wr.heap.size 1 (.int .i64 V1)
           have s2 := cB hb5 wr.heap.size 2 (.string V2)
           have s3 := cB hb5 wr.heap.size 3 (.slice sd V3 sc)
           have t0 := cB hb5 w.heap.size 0 (.int .i64 7)
           have t1 := cB hb5 w.heap.size 1 (.string { data := #[] })
           have t2 := cB hb5 w.heap.size 2 (.slice (some ⟨b, o, none⟩) m' c)
           have hw5 := bwB hb5 w.heap.size w
           have hlt5 : w.heap.size < w5.heap.size := by have := hb5.size; simp at this; omega
           have hz5 := hw5.size
           clear hb5 r0 r1 r2 r3
           go_wp2_with fail
           with_reducible refine (HIx.out _ _ (KQ.out _ hw5)).mono ?_
           rintro e w6 ⟨rfl, hb6⟩
           have u0 := (hb6.cell (p := ⟨w.heap.size, 0, none⟩) hlt5).trans t0
           have u1 := (hb6.cell (p := ⟨w.heap.size, 1, none⟩) hlt5).trans t1
           have u2 := (hb6.cell (p := ⟨w.heap.size, 2, none⟩) hlt5).trans t2
           have hw6 : Below w.heap.size w w6 := hw5.trans (hb6.mono (by omega))
           have hlt6 : w.heap.size < w6.heap.size := by have := hb6.size; omega
           have HKm := Lib.hid hKm
           clear hb6 s1 s2 s3 t0 t1 t2
           go_wp2_with fail
           go_roundw
           case rel => exact ⟨K + 1, HKm.out, by go_num, u0, u1, u2, hlt6, hw6⟩
           case measure => have hKm := HKm.out; simp [intOf]; omega
         · have hKe2 : K = m' := by omega
           subst hKe2
           go_wp2_with fail
           go_ret
           exact ⟨rfl, hw⟩
theorem jcheck_6 (k : Nat) (l : KL) (hl : l.length ≤ 20) (Q : Nat → Prop) (ad : Option Addr) (m c : Nat) (hm : l.length = m) (w : World) (hk : Kd .J Q w (k + 1) l (.slice ad m c)) (hnm : ∀ x ∈ l, x.1 = [])
    (ih : ∀ x ∈ l, ∀ (Q : Nat → Prop) (w : World) (v : Value), Is .J Q w k x.2 v → Calls Tryz.prog 62 #[v] w fun e w' => e = .returned (.int .i64 0) ∧ Below w.heap.size w w') :
    Calls Tryz.prog 62 #[.agg #[.int .i64 6, .string { data := #[] }, .slice ad m c]] w fun e w' => e = .returned (.int .i64 0) ∧ Below w.heap.size w w' := by
  have HK := Lib.hid hk
  have HI := Lib.hid ih
  have HM := Lib.hid hm
  have HNM := Lib.hid hnm
  have hm20 : m ≤ 20 := by omega
  clear hk ih hm hl hnm
  cases hb : decide (0 < m)
  all_goals
   go_enter Tryz.func62, Tryz.ntmps62
   go_wp2_with fail
   go_loopw [49] (fun x wr => ∃ K, K ≤ m ∧ x = .int .i64 K ∧ wr.cell? ⟨w.heap.size, 0, none⟩ = some (.int .i64 6) ∧ wr.cell? ⟨w.heap.size, 1, none⟩ = some (.string { data := #[] }) ∧ wr.cell? ⟨w.heap.size, 2, none⟩ = some (.slice ad m c) ∧ w.heap.size < wr.heap.size ∧ Below w.heap.size w wr) (fun x _ => m - (intOf x).toNat)
   case atStart => refine ⟨0, Nat.zero_le _, rfl, ?_, ?_, ?_, ?_, ?_⟩ <;> first | (simp [go_sem]; done) | (exact bel)
   case round =>
     obtain ⟨K, hK, rfl, q0, q1, q2, hlt, hw⟩ := hrel
     have hzw := hw.size
     by_cases hKm : K < m
     · obtain ⟨⟨kn, kx⟩, hkx⟩ : ∃ x, l[K]? = some x := ⟨_, List.getElem?_eq_getElem (by have := HM.out; omega)⟩
       obtain ⟨b, o, bv, s, rfl, hqb, hbl, hra, hby, hkd⟩ := HK.out.at hkx
       have hblk : wr.heap[b]? = w.heap[b]? := hw.block b hbl
       obtain ⟨sd, sc, rfl⟩ := hkd.slice
       obtain ⟨r0, r1, r2, r3⟩ := rowJ (rangeAt_block hblk hra)
       have hnm := HNM.out
       have hkn : kn = [] := hnm _ (List.mem_of_getElem? hkx)
       subst hkn
       have hb0 : bs [] = { data := #[] } := rfl
       rw [hb0] at r0
       generalize kx.o.kind = V1 at *
       generalize bs kx.o.text = V2 at *
       generalize kx.kids.length = V3 at *
       clear hra hkd hblk hkx hby hnm
       go_wp2_with fail
       go_roundw
       case rel => refine ⟨K + 1, by omega, by go_num, ?_, ?_, ?_, ?_, ?_⟩ <;> first | (simp [go_sem, *]; done) | (exact bel)
       case measure => simp [intOf]; omega
     · have hKe : K = m := by omega
       subst hKe
       have hw1 := hw
       have hlt1 := hlt
       obtain ⟨m', hm'⟩ : ∃ m', m' = K := ⟨_, rfl⟩
       clear hKm hK
       go_wp2_with fail
       go_loopw [89] (fun x wr => ∃ K, K ≤ m' ∧ x = .int .i64 K ∧ wr.cell? ⟨w.heap.size, 0, none⟩ = some (.int .i64 6) ∧ wr.cell? ⟨w.heap.size, 1, none⟩ = some (.string { data := #[] }) ∧ wr.cell? ⟨w.heap.size, 2, none⟩ = some (.slice ad m' c) ∧ w.heap.size < wr.heap.size ∧ Below w.heap.size w wr) (fun x _ => m' - (intOf x).toNat)
       case atStart => refine ⟨0, Nat.zero_le _, rfl, ?_, ?_, ?_, ?_, ?_⟩ <;> first | assumption | (simp [go_sem, *]; done) | (exact bel)
       case round =>
         obtain ⟨K, hK, rfl, q0, q1, q2, hlt, hw⟩ := hrel
         have hzw := hw.size
         by_cases hKm : K < m'
         · obtain ⟨⟨kn, kx⟩, hkx⟩ : ∃ x, l[K]? = some x := ⟨_, List.getElem?_eq_getElem (by have := HM.out; omega)⟩
           obtain ⟨b, o, bv, s, rfl, hqb, hbl, hra, hby, hkd⟩ := HK.out.at hkx
           have hblk : wr.heap[b]? = w.heap[b]? := hw.block b hbl
           obtain ⟨sd, sc, rfl⟩ := hkd.slice
           obtain ⟨r0, r1, r2, r3⟩ := rowJ (rangeAt_block hblk hra)
           have hnm := HNM.out
           have hWN : Wh kn := (by have h := hnm _ (List.mem_of_getElem? hkx); have h2 : kn = [] := h; rw [h2]; exact wh_nil)
           have hLN : kn.length ≤ 200 := (by have h := hnm _ (List.mem_of_getElem? hkx); have h2 : kn = [] := h; rw [h2]; exact Nat.zero_le _)
           have H1 := fun w => is1_any (bs kn) (by rw [bs_size]; omega) w
           rw [bs_list, decide_eq_true hWN] at H1
           have H1 := Lib.hid H1
           have HIx := Lib.hid (HI.out _ (List.mem_of_getElem? hkx) Q)
           have KQ : Hid (∀ w6 : World, Below w.heap.size w w6 → Is .J Q w6 k kx (.agg #[.int .i64 kx.o.kind, .string (bs kx.o.text), .slice sd kx.kids.length sc])) := Lib.hid (fun w6 h6 => Is.beyond (w := w) ⟨.slice none 0 0, _, rfl, True.intro, hkd⟩ h6)
           obtain ⟨V1, hV1⟩ : ∃ x, kx.o.kind = x := ⟨_, rfl⟩
           obtain ⟨V2, hV2⟩ : ∃ x, bs kx.o.text = x := ⟨_, rfl⟩
           obtain ⟨V3, hV3⟩ : ∃ x, kx.kids.length = x := ⟨_, rfl⟩
           rw [hV1] at r1 KQ
           rw [hV2] at r2 KQ
           rw [hV3] at r3 KQ
           generalize bs kn = V0 at *
           clear hra hkd hblk hkx hby hnm hWN hLN hV1 hV2 hV3
           go_wp2_with fail
           with_reducible refine (H1.out _).mono ?_
           rintro e w5 ⟨rfl, hb5⟩
           have s1 := cB hb5 wr.heap.size 1 (.int .i64 V1)
           have s2 := cB hb5 wr.heap.size 2 (.string V2)
           have s3 := cB hb5 wr.heap.size 3 (.slice sd V3 sc)
           have t0 := cB hb5 w.heap.size 0 (.int .i64 6)
           have t1 := cB hb5 w.heap.size 1 (.string { data := #[] })
           have t2 := cB hb5 w.heap.size 2 (.slice (some ⟨b, o, none⟩) m' c)
           have hw5 := bwB hb5 w.heap.size w
           have hlt5 : w.heap.size < w5.heap.size := by have := hb5.size; simp at this; omega
           have hz5 := hw5.size
           clear hb5 r0 r1 r2 r3
           go_wp2_with fail
           with_reducible refine (HIx.out _ _ (KQ.out _ hw5)).mono ?_
           rintro e w6 ⟨rfl, hb6⟩
           have u0 := (hb6.cell (p := ⟨w.heap.size, 0, none⟩) hlt5).trans t0
           have u1 := (hb6.cell (p := ⟨w.heap.size, 1, none⟩) hlt5).trans t1
           have u2 := (hb6.cell (p := ⟨w.heap.size, 2, none⟩) hlt5).trans t2
           have hw6 : Below w.heap.size w w6 := hw5.trans (hb6.mono (by omega))
           have hlt6 : w.heap.size < w6.heap.size := by have := hb6.size; omega
           have HKm := Lib.hid hKm
           clear hb6 s1 s2 s3 t0 t1 t2
           go_wp2_with fail
           go_roundw
           case rel => exact ⟨K + 1, HKm.out, by go_num, u0, u1, u2, hlt6, hw6⟩
           case measure => have hKm := HKm.out; simp [intOf]; omega
         · have hKe2 : K = m' := by omega
           subst hKe2
           go_wp2_with fail
           go_ret
           exact ⟨rfl, hw⟩
end
section
open Go.RowKit
def JChk (k : Nat) (j : Ro) : Prop := ∀ (Q : Nat → Prop) (w : World) (v : Value), Is .J Q w k j v → Calls Tryz.prog 62 #[v] w fun e w' => e = .returned (.int .i64 0) ∧ Below w.heap.size w w'
theorem jchk_S (k : Nat) (x : List UInt8) (hx : x.length ≤ 200) (hw : Wh x) : JChk k (jS x) := fun Q w v h => by
  obtain ⟨ad, c, rfl⟩ := isJ_form h
  exact jcheck_5 x (by omega) hw ad c w
theorem jchk_O {k : Nat} {l : KL} (hl : l.length ≤ 20) (hn : ∀ x ∈ l, x.1.length ≤ 200 ∧ Wh x.1) (ih : ∀ x ∈ l, JChk k x.2) : JChk (k + 1) (jO l) := fun Q w v h => by
  obtain ⟨ad, c, rfl⟩ := isJ_form h
  exact jcheck_7 k l hl Q ad l.length c rfl w (isJ_kids h) hn (fun x hx Q w v h => ih x hx Q w v h)
theorem jchk_A {k : Nat} {l : KL} (hl : l.length ≤ 20) (hn : ∀ x ∈ l, x.1 = []) (ih : ∀ x ∈ l, JChk k x.2) : JChk (k + 1) (jA l) := fun Q w v h => by
  obtain ⟨ad, c, rfl⟩ := isJ_form h
  exact jcheck_6 k l hl Q ad l.length c rfl w (isJ_kids h) hn (fun x hx Q w v h => ih x hx Q w v h)
theorem jchk_any (hN : ∀ k, JChk k (jN [49])) : ∀ (k : Nat) (j : Ro), Jk k j → JChk k j
  | 0, j, h => by
    rcases h with ⟨x, h1, h2, rfl⟩ | rfl
    · exact jchk_S 0 x h1 h2
    · exact hN 0
  | k + 1, j, h => by
    rcases h with (⟨x, h1, h2, rfl⟩ | rfl) | ⟨l, hl, ⟨rfl, h⟩ | ⟨rfl, h⟩⟩
    · exact jchk_S _ x h1 h2
    · exact hN _
    · exact jchk_O hl (fun x hx => ⟨(h x hx).1, (h x hx).2.1⟩) (fun x hx => jchk_any hN k x.2 (h x hx).2.2)
    · exact jchk_A hl (fun x hx => (h x hx).1) (fun x hx => jchk_any hN k x.2 (h x hx).2)
end
end Go.Proofs.YtihnfhhopldllaaGreatDoor
