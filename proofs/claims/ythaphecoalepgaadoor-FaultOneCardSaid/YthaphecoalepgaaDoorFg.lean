/- The contract of the reference's Parse: it tells the fault whose text this is, or none. Condition: a text of at most 4000 bytes. -/
import Derived.Test.YthaphecoalepgaaDoorFe
namespace Go.Proofs.YthaphecoalepgaaDoor
open Go.RowKit
set_option linter.unusedSimpArgs false
set_option linter.unusedVariables false

theorem at_no {l A R : List UInt8} (hl : l = A ++ 64 :: R) (hA : (64 : UInt8) ∉ A) {k : Nat} (h : k < A.length) (hk : k < l.length) : l[k].toNat ≠ 64 := by
  subst hl
  rw [List.getElem_append_left h]
  intro e
  exact hA (by rw [show (64 : UInt8) = A[k] from UInt8.toNat_inj.1 e.symm]; exact List.getElem_mem h)
theorem at_yes {l A R : List UInt8} (hl : l = A ++ 64 :: R) (hk : A.length < l.length) : l[A.length].toNat = 64 := by
  subst hl
  rw [List.getElem_append_right (Nat.le_refl _)]
  simp
/-- Where the reference's cutting stands. -/
def Sc (l R : List UInt8) (f i : Nat) (xs : List (List UInt8)) : Prop := f ≤ i ∧ i ≤ l.length ∧ xs ++ pieces 47 (l.drop f) = pieces 47 R ∧ (47 : UInt8) ∉ (l.drop f).take (i - f)
theorem Sc.start {l A R : List UInt8} (hl : l = A ++ 64 :: R) : Sc l R (A.length + 1) (A.length + 1) [] := by
  subst hl
  refine ⟨Nat.le_refl _, by simp, ?_, by simp⟩
  have e : (A ++ 64 :: R).drop (A.length + 1) = R := by rw [List.drop_append]; simp
  rw [e]; rfl
theorem take_one {l : List UInt8} {f i : Nat} (hf : f ≤ i) (hi : i < l.length) : (l.drop f).take (i + 1 - f) = (l.drop f).take (i - f) ++ [l[i]] := by
  have h : i - f < (l.drop f).length := by rw [List.length_drop]; omega
  rw [show i + 1 - f = i - f + 1 by omega, List.take_succ_eq_append_getElem h, List.getElem_drop]
  congr 3
  omega
theorem Sc.no {l R : List UInt8} {f i : Nat} {xs : List (List UInt8)} (h : Sc l R f i xs) (hi : i < l.length) (hc : l[i].toNat ≠ 47) : Sc l R f (i + 1) xs := by
  obtain ⟨h1, h2, h3, h4⟩ := h
  refine ⟨by omega, by omega, h3, ?_⟩
  rw [take_one h1 hi]
  intro hm
  rcases List.mem_append.1 hm with hm | hm
  · exact h4 hm
  · rw [List.mem_singleton] at hm
    exact hc (by rw [← hm]; rfl)
theorem Sc.cut {l R : List UInt8} {f i : Nat} {xs : List (List UInt8)} (h : Sc l R f i xs) (hi : i < l.length) (hc : l[i].toNat = 47) : Sc l R (i + 1) (i + 1) (xs ++ [(l.drop f).take (i - f)]) := by
  obtain ⟨h1, h2, h3, h4⟩ := h
  refine ⟨Nat.le_refl _, by omega, ?_, by simp⟩
  have e : l.drop f = (l.drop f).take (i - f) ++ 47 :: l.drop (i + 1) := by
    conv => lhs; rw [← List.take_append_drop (i - f) (l.drop f)]
    congr 1
    rw [List.drop_drop, show f + (i - f) = i by omega, List.drop_eq_getElem_cons hi, show l[i] = 47 from UInt8.toNat_inj.1 hc]
  rw [← h3, List.append_assoc]
  congr 1
  conv => rhs; rw [e]
  rw [pieces_hit h4]; rfl
theorem Sc.fin {l R : List UInt8} {f : Nat} {xs : List (List UInt8)} (h : Sc l R f l.length xs) : xs ++ [(l.drop f).take (l.length - f)] = pieces 47 R := by
  obtain ⟨h1, h2, h3, h4⟩ := h
  have e : (l.drop f).take (l.length - f) = l.drop f := List.take_of_length_le (by rw [List.length_drop]; exact Nat.le_refl _)
  rw [e] at h4 ⊢
  rw [← h3, pieces_miss h4]
theorem Sc.len {l R : List UInt8} {f i : Nat} {xs : List (List UInt8)} (h : Sc l R f i xs) : xs.length + 1 ≤ R.length + 1 := by
  have := congrArg List.length h.2.2.1
  rw [List.length_append, pieces_len, pieces_len] at this
  have := List.count_le_length (a := (47 : UInt8)) (l := R)
  omega
/-- An own row of strings. -/
theorem info_str : (Tryd.prog.info? 9).map (fun i => (i.zero, i.size, i.bytes)) = some (some (.string { data := #[] }), 1, 16) := by kernel_rfl
theorem one_str {s : ByteArray} : ∀ u ∈ [Value.string s], u.oneCell' = true := fun u hu => by
  rcases List.mem_singleton.1 hu with rfl
  rfl
def OwnS (w : World) (base : Nat) (v : Value) (xs : List (List UInt8)) : Prop := w.ownsRow base 9 1 v xs.length (xs.map fun l => Value.string ⟨l.toArray⟩)
theorem OwnS.nil (w : World) (base : Nat) : OwnS w base (.slice none 0 0) [] := World.ownsRow_nil _ _ _ _
theorem OwnS.lt {w : World} {base : Nat} {v : Value} {l : List (List UInt8)} (h : OwnS w base v l) : ∀ k, v.ownBlock = some k → base ≤ k := fun k hk => (World.ownsRow.lt h k hk).1
theorem OwnS.app {w : World} {base : Nat} {v : Value} {xs : List (List UInt8)} {p : List UInt8} {S : ByteArray} (e : S.data.toList = p) (h : w.ownsRow base 9 1 v (xs.length + 1) ((xs.map fun l => Value.string ⟨l.toArray⟩) ++ [.string S])) : OwnS w base v (xs ++ [p]) := by
  unfold OwnS
  rw [List.length_append, List.length_singleton, List.map_append, List.map_singleton, ← e]
  exact h
theorem OwnS.row {w : World} {base : Nat} {v : Value} {xs : List (List UInt8)} (h : OwnS w base v xs) (h0 : 0 < xs.length) : ∃ g c, v = .slice (some ⟨g, 0, none⟩) xs.length c ∧ base ≤ g ∧ StrRow w g xs := by
  have h' := h
  rcases h.2 with ⟨rfl, h1⟩ | ⟨g, cap, cur, rfl, hb, hgg, hnc, _, _, htake⟩
  · omega
  · refine ⟨g, cap, rfl, hb, (Array.getElem?_eq_some_iff.1 hgg).1, fun j x hj => ?_⟩
    have hc := World.ownsRow.cells h' (g := g) rfl j (.string ⟨x.toArray⟩) (by rw [List.getElem?_map, hj]; rfl)
    have hadd : (⟨g, 0, none⟩ : Addr).add j = ⟨g, j, none⟩ := by unfold Addr.add; split <;> simp_all
    rw [hadd] at hc
    exact hc
theorem ext_list (s : ByteArray) (f i : Nat) : (s.extract f i).data.toList = (s.data.toList.drop f).take (i - f) := by
  rw [Lib.extract_data]
/-- What the numbers of the pieces are. -/
def rfV (x : List UInt8) : Int := nV (refNum x 9223372036854775807)
def rfB (x : List UInt8) : Bool := (refNum x 9223372036854775807).isSome
theorem rf_made : ∀ (ps : List (List UInt8)), ps.all rfB = true → ps = (ps.map rfV).map (fun v => Lib.decDigits v.toNat) ∧ ∀ v ∈ ps.map rfV, 0 ≤ v ∧ v ≤ 9223372036854775807
  | [], _ => ⟨rfl, fun v hv => by simp at hv⟩
  | x :: ps, h => by
    rw [List.all_cons, Bool.and_eq_true] at h
    obtain ⟨h1, h2⟩ := rf_made ps h.2
    unfold rfB at h
    obtain ⟨u, hu⟩ := Option.isSome_iff_exists.1 h.1
    obtain ⟨h3, h4⟩ := (refNum_iff x 9223372036854775807 u (by decide)).1 hu
    have hv : rfV x = (u : Int) := by unfold rfV; rw [hu]; rfl
    refine ⟨?_, fun v hv2 => ?_⟩
    · rw [List.map_cons, List.map_cons, ← h1, hv, Int.toNat_natCast, h3]
    · rw [List.map_cons] at hv2
      rcases List.mem_cons.1 hv2 with rfl | hv2
      · rw [hv]; omega
      · exact h2 v hv2
theorem rf_bd (x : List UInt8) : 0 ≤ rfV x ∧ rfV x ≤ 9223372036854775807 := by
  unfold rfV
  cases h : refNum x 9223372036854775807 with
  | none => exact ⟨by decide, by decide⟩
  | some v =>
    have := ((refNum_iff x 9223372036854775807 v (by decide)).1 h).2
    show 0 ≤ (v : Int) ∧ (v : Int) ≤ _
    omega
theorem rf_dec (v : Nat) (h : v ≤ 9223372036854775807) : rfB (Lib.decDigits v) = true := by
  unfold rfB
  rw [(refNum_iff (Lib.decDigits v) 9223372036854775807 v (by decide)).2 ⟨rfl, h⟩]; rfl
set_option maxHeartbeats 6400000 in
set_option maxRecDepth 100000 in
theorem refParse_any (s : ByteArray) (hs : s.size ≤ 4000) (w : World) :
    Calls Tryd.prog 14 #[.string s] w fun en w' => RetF s.data.toList w en w' := by
  obtain ⟨i0, hi, iz0, iz1, iz2⟩ := info_parts info_int
  obtain ⟨j0, ji, jz0, jz1, jz2⟩ := info_parts info_str
  have hsz : s.data.toList.length = s.size := by simp
  have HZ := Lib.hid hsz
  by_cases hat : (64 : UInt8) ∈ s.data.toList
  · obtain ⟨A, R, hA, hl⟩ := first_of hat
    have hAR : A.length + 1 + R.length = s.size := by
      rw [hl] at hsz
      simp at hsz
      omega
    obtain ⟨m, hm⟩ : ∃ m : Nat, A.length = m := ⟨_, rfl⟩
    have hAE : Hid ((s.extract 0 m).data.toList = A) := Lib.hid (by rw [ext_list, hl, ← hm]; simp)
    have hAS : (s.extract 0 m).size ≤ 100000 := by rw [ByteArray.size_extract]; omega
    have CD := Lib.hid (fun (w : World) => refCode_any (s.extract 0 m) hAS w)
    rw [hAE.out] at CD
    have S0 : Hid (Sc s.data.toList R (m + 1) (m + 1) []) := Lib.hid (by rw [← hm]; exact Sc.start hl)
    have ATN : Hid (∀ k (h : k < s.size), k < m → s[k].toNat ≠ 64) := Lib.hid (fun k h hk => at_no hl hA (by omega) (by omega))
    have ATY : Hid (∀ (h : m < s.size), s[m].toNat = 64) := Lib.hid (fun h => by
      have := at_yes hl (by omega)
      simp only [hm] at this
      exact this)
    rw [hm] at hAR
    have HA := Lib.hid hA
    have HS := Lib.hid hl
    have HM := Lib.hid hm
    obtain ⟨N, hN⟩ : ∃ N, (pieces 47 R).length = N := ⟨_, rfl⟩
    have hN1 : 1 ≤ N ∧ N ≤ 4001 := by
      rw [← hN, pieces_len]
      have := List.count_le_length (a := (47 : UInt8)) (l := R)
      omega
    obtain ⟨hN1, hN2⟩ := hN1
    have HN := Lib.hid hN
    have hRl : R.length ≤ 4000 := by omega
    have hms : m < s.size := by omega
    clear hm hAE hAS hl hA hat hN hsz hAR
    go_enter Tryd.func14, Tryd.ntmps14
    go_wp2_with fail
    go_loopw [4, 5, 6, 7] (fun pv fv nv iv wr => ∃ (k f : Nat) (xs : List (List UInt8)), iv = .int .i64 k ∧ fv = .int .i64 f ∧ k ≤ s.size + 1 ∧ Hid (OwnS wr (w.heap.size + 1) pv xs) ∧ Hid (FC wr w.heap.size 0 0 (.slice none 0 0)) ∧ Below w.heap.size w wr ∧ w.heap.size + 1 ≤ wr.heap.size ∧ ((k ≤ m ∧ nv = .int .i64 (-1) ∧ f = 0 ∧ xs = []) ∨ (m < k ∧ k ≤ s.size ∧ nv = .int .i64 m ∧ f ≤ k ∧ Hid (Sc s.data.toList R f k xs)) ∨ (k = s.size + 1 ∧ nv = .int .i64 m ∧ Hid (xs = pieces 47 R)))) (fun _ _ _ iv _ => s.size + 2 - (intOf iv).toNat)
    case atStart => exact ⟨0, 0, [], rfl, rfl, by omega, Lib.hid (OwnS.nil _ _), Lib.hid (FC.new w _ 0 0 _), by repeat' (first | (with_reducible assumption) | (with_reducible exact Below.refl _ _) | (with_reducible refine below_drewN ?_ _) | (with_reducible refine Below.drew ?_) | (with_reducible refine Below.setCell ?_ ?_ _) | (with_reducible refine Below.alloc ?_ ?_ _) | omega | (simp; done) | (simp; omega)), by simp, Or.inl ⟨Nat.zero_le _, rfl, rfl, rfl⟩⟩
    case round =>
      obtain ⟨k, f, xs, rfl, rfl, hk, HO, HF, hbw, hwz, hst⟩ := hrel
      obtain ⟨wo, rfl⟩ : ∃ wo : World, wo = wr := ⟨_, rfl⟩
      have hzo := hbw.size
      have HO' := HO.out
      rcases hst with ⟨hkm, rfl, rfl, rfl⟩ | ⟨hkm, hks, rfl, hfk, HSC⟩ | ⟨rfl, rfl, HX⟩
      · have hks : k < s.size := by omega
        by_cases hkm2 : k < m
        · have e64 : ((s[k].toNat : Int) == 64) = false := beq_eq_false_iff_ne.2 (by have := ATN.out k hks hkm2; omega)
          clear HO'
          go_wp2_with fail
          go_roundw
          case rel => exact ⟨k + 1, 0, [], by go_num, rfl, by omega, HO, HF, hbw, hwz, Or.inl ⟨by omega, rfl, rfl, rfl⟩⟩
          case measure => first | (simp [intOf]; done) | (simp [intOf]; omega)
        · obtain rfl : k = m := by omega
          have e64 : ((s[k].toNat : Int) == 64) = true := beq_iff_eq.2 (by have := ATY.out hks; omega)
          clear HO'
          go_wp2_with fail
          go_roundw
          case rel => exact ⟨k + 1, k + 1, [], by go_num, by go_num, by omega, HO, HF, hbw, hwz, Or.inr (Or.inl ⟨by omega, by omega, rfl, Nat.le_refl _, S0⟩)⟩
          case measure => first | (simp [intOf]; done) | (simp [intOf]; omega)
      · have hxl : xs.length ≤ 4000 := by have := HSC.out.len; omega
        have m0 : (0 : Int) ≤ (m : Int) := by omega
        have f0 : (0 : Int) ≤ (f : Int) := by omega
        have f1 : (f : Int) ≤ (k : Int) := by omega
        have k1 : (k : Int) ≤ (s.size : Int) := by omega
        have hO := HO'
        clear HO'
        by_cases hlt : k < s.size
        · have hne : ((k : Int) == (s.size : Int)) = false := beq_eq_false_iff_ne.2 (by omega)
          by_cases h47 : s[k].toNat = 47
          · have e47 : ((s[k].toNat : Int) == 47) = true := beq_iff_eq.2 (by omega)
            have HC2 := Lib.hid (HSC.out.cut (by have := HZ.out; omega) h47)
            go_wp2_with (at_builtin; refine wpList_append_own _ rfl _ _ 40 rfl (w.heap.size + 1) 9 j0 (.string { data := #[] }) 1 16 Tryd.underlying40 ji jz0 jz1 jz2 rfl (by decide) _ xs.length _ rfl (hO.alloc _) ⟨wo.heap.size, 0, none⟩ 1 1 [.string (s.extract f k)] rfl rfl (cell_one_new _ _ _) one_str (by unfold maxLen; omega) (by omega) (by first | assumption | (simp; omega)) ?_; intro v6 w6 hown6 hgrow6 _)
            have hb6 : Below (w.heap.size + 1) wo w6 := Below.grown ((Below.refl _ _).alloc hwz _) hgrow6 (by first | assumption | (simp; omega)) (fun q hq => hO.lt q hq)
            have O6 := Lib.hid (OwnS.app (ext_list s f k) hown6)
            have F6 := Lib.hid (HF.out.below hb6 (by omega))
            have hw6 : Below w.heap.size w w6 := hbw.trans (hb6.mono (by omega))
            have hz6 : w.heap.size + 1 ≤ w6.heap.size := Nat.le_trans hwz hb6.size
            clear hown6 hgrow6 hb6 hO HO HF hbw hwz
            go_wp2_with fail
            go_roundw
            case rel => exact ⟨k + 1, k + 1, _, by go_num, by go_num, by omega, O6, F6, hw6, hz6, Or.inr (Or.inl ⟨by omega, by omega, rfl, Nat.le_refl _, HC2⟩)⟩
            case measure => first | (simp [intOf]; done) | (simp [intOf]; omega)
          · have e47 : ((s[k].toNat : Int) == 47) = false := beq_eq_false_iff_ne.2 (by omega)
            have HC2 := Lib.hid (HSC.out.no (by have := HZ.out; omega) h47)
            go_wp2_with fail
            go_roundw
            case rel => exact ⟨k + 1, f, xs, by go_num, rfl, by omega, HO, HF, hbw, hwz, Or.inr (Or.inl ⟨by omega, by omega, rfl, by omega, HC2⟩)⟩
            case measure => first | (simp [intOf]; done) | (simp [intOf]; omega)
        · obtain rfl : k = s.size := by omega
          have heq : ((s.size : Int) == (s.size : Int)) = true := beq_self_eq_true _
          have HC2 : Hid (xs ++ [(s.data.toList.drop f).take (s.size - f)] = pieces 47 R) := Lib.hid (by
            have h := HSC.out
            rw [← HZ.out] at h ⊢
            exact h.fin)
          go_wp2_with (at_builtin; refine wpList_append_own _ rfl _ _ 40 rfl (w.heap.size + 1) 9 j0 (.string { data := #[] }) 1 16 Tryd.underlying40 ji jz0 jz1 jz2 rfl (by decide) _ xs.length _ rfl (hO.alloc _) ⟨wo.heap.size, 0, none⟩ 1 1 [.string (s.extract f s.size)] rfl rfl (cell_one_new _ _ _) one_str (by unfold maxLen; omega) (by omega) (by first | assumption | (simp; omega)) ?_; intro v6 w6 hown6 hgrow6 _)
          have hb6 : Below (w.heap.size + 1) wo w6 := Below.grown ((Below.refl _ _).alloc hwz _) hgrow6 (by first | assumption | (simp; omega)) (fun q hq => hO.lt q hq)
          have O6 := Lib.hid (OwnS.app (ext_list s f s.size) hown6)
          have F6 := Lib.hid (HF.out.below hb6 (by omega))
          have hw6 : Below w.heap.size w w6 := hbw.trans (hb6.mono (by omega))
          have hz6 : w.heap.size + 1 ≤ w6.heap.size := Nat.le_trans hwz hb6.size
          clear hown6 hgrow6 hb6 hO HO HF hbw hwz
          go_wp2_with fail
          go_roundw
          case rel => exact ⟨s.size + 1, s.size + 1, _, by go_num, by go_num, by omega, O6, F6, hw6, hz6, Or.inr (Or.inr ⟨rfl, rfl, HC2⟩)⟩
          case measure => first | (simp [intOf]; done) | (simp [intOf]; omega)
      · obtain rfl := HX.out
        obtain ⟨gp, cp, hpv, hgb, hrow⟩ := HO'.row (by rw [HN.out]; omega)
        rw [HN.out] at hpv
        subst hpv
        have hnn : ¬ (s.size : Int) + 1 ≤ (s.size : Int) := by omega
        have m0 : (0 : Int) ≤ (m : Int) := by omega
        have m1 : (m : Int) ≤ (s.size : Int) := by omega
        have HR := Lib.hid hrow
        have hgl := hrow.1
        clear hrow HO' HO HX S0 ATN ATY
        go_wp2_with fail
        with_reducible refine (CD.out _).mono ?_
        rintro e w4 ⟨e2, b2, hc2, rfl, hb4⟩
        have HF4 := Lib.hid (HF.out.beyond hb4)
        have HR4 := Lib.hid (HR.out.beyond hb4)
        have hw4 := hbw.trans (hb4.mono hzo)
        have hgg : gp < w4.heap.size := Nat.lt_of_lt_of_le hgl hb4.size
        have hwg : w.heap.size < w4.heap.size := by have := hb4.size; omega
        have HC := Lib.hid hc2
        clear hb4 HF HR hbw hwz hzo hc2 CD
        go_wp2_with fail
        obtain ⟨g, hg⟩ : ∃ g, w4.heap.size = g := ⟨_, rfl⟩
        have ST := Lib.hid (show FC (w4.alloc (.cells #[.int .i64 e2, .int .i64 0, .slice none 0 0] 30)) g e2 0 (.slice none 0 0) ∧ FC (w4.alloc (.cells #[.int .i64 e2, .int .i64 0, .slice none 0 0] 30)) w.heap.size 0 0 (.slice none 0 0) ∧ StrRow (w4.alloc (.cells #[.int .i64 e2, .int .i64 0, .slice none 0 0] 30)) gp (pieces 47 R) ∧ Below w.heap.size w (w4.alloc (.cells #[.int .i64 e2, .int .i64 0, .slice none 0 0] 30)) ∧ g + 1 ≤ (w4.alloc (.cells #[.int .i64 e2, .int .i64 0, .slice none 0 0] 30)).heap.size by
          rw [← hg]
          have hb := (Below.refl w4.heap.size w4).alloc (Nat.le_refl _) (.cells #[.int .i64 e2, .int .i64 0, .slice none 0 0] 30)
          exact ⟨FC.new _ _ _ _ _, HF4.out.beyond hb, HR4.out.beyond hb, hw4.trans (hb.mono hw4.size), by simp⟩)
        rw [hg] at hgg hwg
        clear HF4 HR4 hw4
        generalize w4.alloc (.cells #[.int .i64 e2, .int .i64 0, .slice none 0 0] 30) = w5 at *
        simp only [hg] at *
        go_loopw [9, 11] (fun okv iv wr => ∃ (K : Nat) (ob : Bool) (v : Value), okv = .bool ob ∧ iv = .int .i64 K ∧ K ≤ N ∧ Hid (ob = (b2 && ((pieces 47 R).take K).all rfB)) ∧ Hid (FC wr w.heap.size 0 0 (.slice none 0 0)) ∧ Hid (FC wr g e2 ((((pieces 47 R).take K).map rfV).headD 0) v) ∧ Hid (OwnI wr (g + 1) v (((pieces 47 R).take K).map rfV).tail) ∧ Hid (StrRow wr gp (pieces 47 R)) ∧ Below w.heap.size w wr ∧ g + 1 ≤ wr.heap.size) (fun _ iv _ => N - (intOf iv).toNat)
        case atStart => exact ⟨0, b2, _, rfl, rfl, Nat.zero_le _, Lib.hid (by simp), Lib.hid ST.out.2.1, Lib.hid ST.out.1, Lib.hid (OwnI.nil _ _), Lib.hid ST.out.2.2.1, ST.out.2.2.2.1, ST.out.2.2.2.2⟩
        case round =>
          obtain ⟨K, ob, v, rfl, rfl, hK, HOB, HF, HG, HO, HR, hbw, hgz⟩ := hrel
          obtain ⟨wo, rfl⟩ : ∃ wo : World, wo = wr := ⟨_, rfl⟩
          have hzo := hbw.size
          clear ST
          by_cases hlt : K < N
          · obtain ⟨x, hx, hxm, hxl⟩ := pieces_get (c := 47) (r := R) (K := K) (by rw [HN.out]; exact hlt)
            obtain ⟨sx, hsx⟩ : ∃ sx : ByteArray, (⟨x.toArray⟩ : ByteArray) = sx := ⟨_, rfl⟩
            have hxs : sx.data.toList = x := by rw [← hsx]
            have hx4 : sx.size ≤ 100000 := by
              have e : sx.data.toList.length = sx.size := by simp
              rw [← e, hxs]; omega
            have ck := HR.out.2 K x hx
            rw [hsx] at ck
            have hrl := HR.out.1
            have HTK : Hid ((pieces 47 R).take (K + 1) = (pieces 47 R).take K ++ [x]) := Lib.hid (by
              obtain ⟨h1, h2⟩ := List.getElem?_eq_some_iff.1 hx
              rw [List.take_succ_eq_append_getElem h1, h2])
            have HLK : Hid (((pieces 47 R).take K).length = K) := Lib.hid (by rw [List.length_take, HN.out]; omega)
            have NB := Lib.hid (fun (w : World) => by
              have h := number_any sx hx4 9223372036854775807 (by decide) (by decide) w
              rw [hxs, show (9223372036854775807 : Int).toNat = 9223372036854775807 from rfl] at h
              exact (show Calls Tryd.prog 22 #[.string sx, .int .u64 9223372036854775807] w fun e w' => e = .returned (.tuple #[.int .u64 (rfV x), .bool (rfB x)]) ∧ w = w' from h))
            have HM2 : Hid (((pieces 47 R).take (K + 1)).map rfV = ((pieces 47 R).take K).map rfV ++ [rfV x]) := Lib.hid (by rw [HTK.out, List.map_append]; rfl)
            have HB2 : Hid ((ob && rfB x) = (b2 && ((pieces 47 R).take (K + 1)).all rfB)) := Lib.hid (by rw [HTK.out, List.all_append, HOB.out]; simp [Bool.and_assoc])
            obtain ⟨u0, u1⟩ := rf_bd x
            have hcv : IntKind.i64.wrap (rfV x) = rfV x := IntWalk.i64_in _ (by omega)
            have k0 : (0 : Int) ≤ (K : Int) := by omega
            have k1 : (K : Int) < (N : Int) := by omega
            have hVL : Hid ((((pieces 47 R).take K).map rfV).length = K) := Lib.hid (by rw [List.length_map, HLK.out])
            clear hx hxm hxl hsx hxs HTK HLK HOB
            generalize ((pieces 47 R).take K).map rfV = vs at *
            generalize rfV x = u at *
            generalize rfB x = bu at *
            have HOBN : Hid ((if ob = true then bu else false) = (ob && bu)) := Lib.hid (by cases ob <;> rfl)
            by_cases hK0 : K = 0
            · subst hK0
              obtain rfl : vs = [] := List.eq_nil_of_length_eq_zero hVL.out
              have S1 := Lib.hid (HG.out.set1 u)
              have S2 := Lib.hid (HF.out.setOther (g' := g) (i := 1) (u := .int .i64 u) (by omega))
              have S3 := Lib.hid (HO.out.set (g := g) (i := 1) (u := .int .i64 u) (by omega))
              have S4 := Lib.hid (HR.out.set (g' := g) (i := 1) (u := .int .i64 u) (by omega))
              have hw5 := hbw.setCell (p := ⟨g, 1, none⟩) (by show w.heap.size ≤ g; omega) (.int .i64 u)
              have hz5 : g + 1 ≤ (wo.setCell ⟨g, 1, none⟩ (.int .i64 u)).heap.size := by rw [World.size_setCell]; exact hgz
              have cg := HG.out.2.1
              have cz := HG.out.2.2.2.1 1
              have cl := HG.out.2.2.2.2
              cases ob
              all_goals
                go_wp2_with fail
                with_reducible refine (NB.out _).mono ?_
                rintro e w' ⟨rfl, rfl⟩
                go_wp2_with fail
                go_roundw
                case rel => exact ⟨1, _, _, rfl, by go_num, hN1, HB2, S2, Lib.hid (by rw [HM2.out]; exact S1.out), Lib.hid (by rw [HM2.out]; exact S3.out), S4, hw5, hz5⟩
                case measure => first | (simp [intOf]; done) | (simp [intOf]; omega)
            · have kq : ((K : Int) == 0) = false := beq_eq_false_iff_ne.2 (by omega)
              obtain ⟨y, ys, rfl⟩ : ∃ y ys, vs = y :: ys := by
                cases vs with
                | nil => exact absurd hVL.out.symm hK0
                | cons y ys => exact ⟨y, ys, rfl⟩
              have hyl : ys.length ≤ 4001 := by have := hVL.out; simp at this; omega
              have hO := HO.out
              have hlen6 : (ys ++ [u]).length = ys.length + 1 := by simp
              have cg := HG.out.2.2.1
              have cz := HG.out.2.2.2.1 2
              have cl := HG.out.2.2.2.2
              cases ob
              all_goals
                go_wp2_with fail
                with_reducible refine (NB.out _).mono ?_
                rintro e w' ⟨rfl, rfl⟩
                go_wp2_with (at_builtin; refine wpList_append_own _ rfl _ _ 28 rfl (g + 1) 3 i0 (.int .i64 0) 1 8 Tryd.underlying28 hi iz0 iz1 iz2 rfl (by decide) v ys.length _ rfl (hO.alloc _) ⟨wo.heap.size, 0, none⟩ 1 1 [.int .i64 u] rfl rfl (cell_one_new _ _ _) one_int (by unfold maxLen; omega) (by omega) (by first | assumption | (simp; omega)) ?_; intro v6 w6 hown6 hgrow6 _; have O6 := OwnI.app hown6; obtain ⟨ad6, c6, hv6, hs6⟩ := O6.sl; rw [hlen6] at hv6; subst hv6; have hb6 : Below (g + 1) wo w6 := Below.grown ((Below.refl _ _).alloc hgz _) hgrow6 (by first | assumption | (simp; omega)) (fun k hk => hO.lt k hk); have G6 := HG.out.below hb6 (by omega); have cg6 := G6.2.2.1; have cz6 := G6.2.2.2.1 2; have cl6 := G6.2.2.2.2; clear cg cz cl)
                have F6 := HF.out.below hb6 (by omega)
                have R6 := HR.out.below hb6 (by omega)
                have hw6 : Below w.heap.size w w6 := hbw.trans (hb6.mono (by omega))
                have hz6 : g + 1 ≤ w6.heap.size := Nat.le_trans hgz hb6.size
                clear hown6 hgrow6 hb6 hO
                have S1 := Lib.hid (G6.set2 (.slice ad6 (ys.length + 1) c6))
                have S2 := Lib.hid (F6.setOther (g' := g) (i := 2) (u := .slice ad6 (ys.length + 1) c6) (by omega))
                have S3 := Lib.hid (O6.set (g := g) (i := 2) (u := .slice ad6 (ys.length + 1) c6) (by omega))
                have S4 := Lib.hid (R6.set (g' := g) (i := 2) (u := .slice ad6 (ys.length + 1) c6) (by omega))
                have hw7 := hw6.setCell (p := ⟨g, 2, none⟩) (by show w.heap.size ≤ g; omega) (.slice ad6 (ys.length + 1) c6)
                have hz7 : g + 1 ≤ (w6.setCell ⟨g, 2, none⟩ (.slice ad6 (ys.length + 1) c6)).heap.size := by rw [World.size_setCell]; exact hz6
                clear O6 F6 G6 R6 HF HG HO HR
                go_wp2_with fail
                go_roundw
                case rel => exact ⟨K + 1, _, _, rfl, by go_num, by omega, HB2, S2, Lib.hid (by rw [HM2.out]; exact S1.out), Lib.hid (by rw [HM2.out]; exact S3.out), S4, hw7, hz7⟩
                case measure => first | (simp [intOf]; done) | (simp [intOf]; omega)
          · obtain rfl : K = N := by omega
            have hfull : (pieces 47 R).take K = pieces 47 R := List.take_of_length_le (by rw [HN.out]; exact Nat.le_refl _)
            rw [hfull] at HOB HG HO
            have HF4 := HF
            have F4 := HF.out
            obtain ⟨f40, f41, f42, f4z, f4l⟩ := F4
            have f4z0 := f4z 0
            have f4z1 := f4z 1
            have f4z2 := f4z 2
            have cg := HG.out
            have hO := HO.out
            obtain ⟨ad, c, rfl, hsl⟩ := OwnI.sl hO
            cases hob : ob
            · subst hob
              have HNO : Hid (∀ e a p, ¬ Par s.data.toList e a p) := Lib.hid (fun e a p hp => by
                have h := HOB.out
                rcases HC.out with ⟨rfl, _⟩ | ⟨rfl, rfl, hno⟩
                · rw [Bool.true_and] at h
                  have h2 : (pieces 47 R).all rfB = true := List.all_eq_true.2 (fun q hq => by
                    obtain ⟨u, hu, hd⟩ := hp.all HA.out HS.out q hq
                    rw [← hd]; exact rf_dec u hu)
                  rw [h2] at h
                  cases h
                · exact no_par_nm HA.out HS.out hno e a p hp)
              clear HC HOB hsl cg hO
              go_wp2_with fail
              have F5 := (show FC wo w.heap.size 0 0 (.slice none 0 0) from HF4.out).setAll (e' := 0) (a' := 0) (.slice none 0 0)
              have hw5 := below_setAll (B := w.heap.size) (g := w.heap.size) (w0 := w) (w := wo) (by repeat' (first | (with_reducible assumption) | (with_reducible exact Below.refl _ _) | (with_reducible refine below_drewN ?_ _) | (with_reducible refine Below.drew ?_) | (with_reducible refine Below.setCell ?_ ?_ _) | (with_reducible refine Below.alloc ?_ ?_ _) | omega | (simp; done) | (simp; omega))) (Nat.le_refl _) (.int .i64 (0)) (.int .i64 (0)) (.slice none 0 0)
              clear f40 f41 f42 f4z f4l f4z0 f4z1 f4z2 HF4
              generalize ((World.setCell wo ⟨w.heap.size, 0, none⟩ (.int .i64 (0))).setCell ⟨w.heap.size, 1, none⟩ (.int .i64 (0))).setCell ⟨w.heap.size, 2, none⟩ (.slice none 0 0) = w5 at *
              obtain ⟨f50, f51, f52, f5z, f5l⟩ := F5
              refine bodyPost_ret (v := .tuple #[.agg #[.int .i64 (0), .int .i64 (0), .slice none 0 0], .bool false]) (by simp (maxDischargeDepth := 6) [results, Tryd.results14, go_sem, f50, f51, f52]) rfl ?_
              exact ⟨Or.inr ⟨HNO.out, rfl⟩, hw5⟩
            · subst hob
              have h := HOB.out.symm
              rw [Bool.and_eq_true] at h
              obtain ⟨rfl, h2⟩ := h
              obtain ⟨h3, h4⟩ := rf_made _ h2
              generalize (pieces 47 R).map rfV = vs at *
              obtain ⟨y, ys, rfl⟩ : ∃ y ys, vs = y :: ys := by
                cases vs with
                | nil => rw [List.map_nil] at h3; exact absurd h3 (pieces_ne _ _)
                | cons y ys => exact ⟨y, ys, rfl⟩
              have HP : Hid (Par s.data.toList e2 y ys) := Lib.hid (by
                rcases HC.out with ⟨_, e0, e13, enm⟩ | ⟨h, _⟩
                · exact par_made HS.out e0 e13 enm h3 h4
                · cases h)
              have G4 : FC wo g e2 y (.slice ad ys.length c) := cg
              have O4 := Lib.hid (show OwnI wo (g + 1) (.slice ad ys.length c) ys from hO)
              clear HC HOB hsl cg hO h2 h3 h4 HG HO
              obtain ⟨d40, d41, d42, d4z, d4l⟩ := G4
              go_wp2_with fail
              have F5 := (show FC wo w.heap.size 0 0 (.slice none 0 0) from HF4.out).setAll (e' := e2) (a' := y) (.slice ad ys.length c)
              have hw5 := below_setAll (B := w.heap.size) (g := w.heap.size) (w0 := w) (w := wo) (by repeat' (first | (with_reducible assumption) | (with_reducible exact Below.refl _ _) | (with_reducible refine below_drewN ?_ _) | (with_reducible refine Below.drew ?_) | (with_reducible refine Below.setCell ?_ ?_ _) | (with_reducible refine Below.alloc ?_ ?_ _) | omega | (simp; done) | (simp; omega))) (Nat.le_refl _) (.int .i64 (e2)) (.int .i64 (y)) (.slice ad ys.length c)
              have O5 := Lib.hid (OwnI.mono (((O4.out.set (g := w.heap.size) (i := 0) (u := .int .i64 e2) (by omega)).set (g := w.heap.size) (i := 1) (u := .int .i64 y) (by omega)).set (g := w.heap.size) (i := 2) (u := .slice ad ys.length c) (by omega)) (show w.heap.size ≤ g + 1 by omega))
              clear f40 f41 f42 f4z f4l f4z0 f4z1 f4z2 HF4 d40 d41 d42 d4z d4l O4
              generalize ((World.setCell wo ⟨w.heap.size, 0, none⟩ (.int .i64 (e2))).setCell ⟨w.heap.size, 1, none⟩ (.int .i64 (y))).setCell ⟨w.heap.size, 2, none⟩ (.slice ad ys.length c) = w5 at *
              obtain ⟨f50, f51, f52, f5z, f5l⟩ := F5
              refine bodyPost_ret (v := .tuple #[.agg #[.int .i64 (e2), .int .i64 (y), .slice ad ys.length c], .bool true]) (by simp (maxDischargeDepth := 6) [results, Tryd.results14, go_sem, f50, f51, f52]) rfl ?_
              exact ⟨Or.inl ⟨e2, y, ys, _, HP.out, O5.out, rfl⟩, hw5⟩
  · have HNO := Lib.hid (no_par_at hat)
    have ATN : Hid (∀ k (h : k < s.size), s[k].toNat ≠ 64) := Lib.hid (fun k h e => hat (by
      have h2 : k < s.data.toList.length := by omega
      rw [show (64 : UInt8) = s.data.toList[k] from UInt8.toNat_inj.1 e.symm]
      exact List.getElem_mem h2))
    clear hat hsz
    go_enter Tryd.func14, Tryd.ntmps14
    go_wp2_with fail
    go_loopw [4, 5, 6, 7] (fun pv fv nv iv wr => ∃ (k : Nat), iv = .int .i64 k ∧ fv = .int .i64 0 ∧ nv = .int .i64 (-1) ∧ pv = .slice none 0 0 ∧ k ≤ s.size + 1 ∧ Hid (FC wr w.heap.size 0 0 (.slice none 0 0)) ∧ Below w.heap.size w wr) (fun _ _ _ iv _ => s.size + 2 - (intOf iv).toNat)
    case atStart => exact ⟨0, rfl, rfl, rfl, rfl, by omega, Lib.hid (FC.new w _ 0 0 _), by repeat' (first | (with_reducible assumption) | (with_reducible exact Below.refl _ _) | (with_reducible refine below_drewN ?_ _) | (with_reducible refine Below.drew ?_) | (with_reducible refine Below.setCell ?_ ?_ _) | (with_reducible refine Below.alloc ?_ ?_ _) | omega | (simp; done) | (simp; omega))⟩
    case round =>
      obtain ⟨k, rfl, rfl, rfl, rfl, hk, HF, hbw⟩ := hrel
      obtain ⟨wo, rfl⟩ : ∃ wo : World, wo = wr := ⟨_, rfl⟩
      have hzo := hbw.size
      by_cases hlt : k < s.size
      · have e64 : ((s[k].toNat : Int) == 64) = false := beq_eq_false_iff_ne.2 (by have := ATN.out k hlt; omega)
        go_wp2_with fail
        go_roundw
        case rel => exact ⟨k + 1, by go_num, rfl, rfl, rfl, by omega, HF, hbw⟩
        case measure => first | (simp [intOf]; done) | (simp [intOf]; omega)
      · by_cases hke : k = s.size
        · subst hke
          go_wp2_with fail
          go_roundw
          case rel => exact ⟨s.size + 1, by go_num, rfl, rfl, rfl, by omega, HF, hbw⟩
          case measure => first | (simp [intOf]; done) | (simp [intOf]; omega)
        · have hnn : ¬ (k : Int) ≤ (s.size : Int) := by omega
          have HF4 := HF
          have F4 := HF.out
          obtain ⟨f40, f41, f42, f4z, f4l⟩ := F4
          have f4z0 := f4z 0
          have f4z1 := f4z 1
          have f4z2 := f4z 2
          go_wp2_with fail
          have F5 := (show FC wo w.heap.size 0 0 (.slice none 0 0) from HF4.out).setAll (e' := 0) (a' := 0) (.slice none 0 0)
          have hw5 := below_setAll (B := w.heap.size) (g := w.heap.size) (w0 := w) (w := wo) (by repeat' (first | (with_reducible assumption) | (with_reducible exact Below.refl _ _) | (with_reducible refine below_drewN ?_ _) | (with_reducible refine Below.drew ?_) | (with_reducible refine Below.setCell ?_ ?_ _) | (with_reducible refine Below.alloc ?_ ?_ _) | omega | (simp; done) | (simp; omega))) (Nat.le_refl _) (.int .i64 (0)) (.int .i64 (0)) (.slice none 0 0)
          clear f40 f41 f42 f4z f4l f4z0 f4z1 f4z2 HF4
          generalize ((World.setCell wo ⟨w.heap.size, 0, none⟩ (.int .i64 (0))).setCell ⟨w.heap.size, 1, none⟩ (.int .i64 (0))).setCell ⟨w.heap.size, 2, none⟩ (.slice none 0 0) = w5 at *
          obtain ⟨f50, f51, f52, f5z, f5l⟩ := F5
          refine bodyPost_ret (v := .tuple #[.agg #[.int .i64 (0), .int .i64 (0), .slice none 0 0], .bool false]) (by simp (maxDischargeDepth := 6) [results, Tryd.results14, go_sem, f50, f51, f52]) rfl ?_
          exact ⟨Or.inr ⟨HNO.out, rfl⟩, hw5⟩

end Go.Proofs.YthaphecoalepgaaDoor
