/- The walk of DecitJust. Condition: the table of powers of 10 is laid; some integer stands at the library's MaxLen. -/
import Derived.Test.YtpgooajifehbbaaDoorQ10
namespace Go.Proofs.YtpgooajifehbbaaDoor
open Go.RowKit
set_option linter.unusedSimpArgs false
set_option linter.unusedVariables false

/-- The cells of a wide number at block g. -/
def W2 (w : World) (g : Nat) (h l : Int) : Prop := w.cell? ⟨g, 0, none⟩ = some (.int .u64 h) ∧ w.cell? ⟨g, 1, none⟩ = some (.int .u64 l) ∧ (∀ i, w.frozen? ⟨g, i, none⟩ = false) ∧ g < w.heap.size
theorem W2.below {w w' : World} {B g : Nat} {h l : Int} (k : W2 w g h l) (hb : Below B w w') (hg : g < B) : W2 w' g h l :=
  ⟨(hb.cell (p := ⟨g, 0, none⟩) hg).trans k.1, (hb.cell (p := ⟨g, 1, none⟩) hg).trans k.2.1, fun i => (hb.frozen (p := ⟨g, i, none⟩) hg).trans (k.2.2.1 i), Nat.lt_of_lt_of_le k.2.2.2 hb.size⟩
theorem W2.beyond {w w' : World} {g : Nat} {h l : Int} (k : W2 w g h l) (hb : Below w.heap.size w w') : W2 w' g h l := k.below hb k.2.2.2
theorem W2.new (w : World) (t : TypeId) (h l : Int) : W2 (w.alloc (.cells #[.int .u64 h, .int .u64 l] t)) w.heap.size h l :=
  ⟨by rw [World.cell?_alloc_at _ _ _ _ rfl]; rfl, by rw [World.cell?_alloc_at _ _ _ _ rfl]; rfl, fun i => by simp [go_sem], by simp⟩
theorem W2.setAll {w : World} {g : Nat} {h l : Int} (k : W2 w g h l) (h' l' : Int) : W2 ((w.setCell ⟨g, 0, none⟩ (.int .u64 h')).setCell ⟨g, 1, none⟩ (.int .u64 l')) g h' l' := by
  have k1 : (w.setCell ⟨g, 0, none⟩ (.int .u64 h')).cell? ⟨g, 1, none⟩ = some (.int .u64 l) := by rw [World.cell?_setCell_other _ _ _ _ (fun e => by injection e with _ h2; cases h2)]; exact k.2.1
  refine ⟨?_, World.cell?_setCell_same _ _ _ k1, fun i => by rw [World.frozen?_setCell, World.frozen?_setCell]; exact k.2.2.1 i, by rw [World.size_setCell, World.size_setCell]; exact k.2.2.2⟩
  rw [World.cell?_setCell_other _ _ _ _ (fun e => by injection e with _ h2; cases h2)]
  exact World.cell?_setCell_same _ _ _ k.1
theorem W2.setOther {w : World} {g g' : Nat} {h l : Int} (k : W2 w g h l) (hne : g' ≠ g) (x y : Value) : W2 ((w.setCell ⟨g', 0, none⟩ x).setCell ⟨g', 1, none⟩ y) g h l :=
  ⟨by rw [World.cell?_setCell_other _ _ _ _ (fun e => hne (by injection e)), World.cell?_setCell_other _ _ _ _ (fun e => hne (by injection e))]; exact k.1, by rw [World.cell?_setCell_other _ _ _ _ (fun e => hne (by injection e)), World.cell?_setCell_other _ _ _ _ (fun e => hne (by injection e))]; exact k.2.1, fun i => by rw [World.frozen?_setCell, World.frozen?_setCell]; exact k.2.2.1 i, by rw [World.size_setCell, World.size_setCell]; exact k.2.2.2⟩
theorem times10 (v : Nat) (hv : v * 10 < 340282366920938463463374607431768211456) (w : World) :
    Calls Tryd.prog 19 #[.agg #[.int .u64 ((v : Int) / 18446744073709551616), .int .u64 ((v : Int) % 18446744073709551616)], .int .u64 10] w fun e w' =>
      (∃ o : Int, e = .returned (.tuple #[.agg #[.int .u64 (((v * 10 : Nat) : Int) / 18446744073709551616), .int .u64 (((v * 10 : Nat) : Int) % 18446744073709551616)], .int .u64 o])) ∧ Below w.heap.size w w' := by
  refine (refTimes_any ((v : Int) / 18446744073709551616) ((v : Int) % 18446744073709551616) 10 (by omega) (by omega) (by omega) (by omega) (by decide) (by decide) w).mono ?_
  rintro e w' ⟨rfl, hb⟩
  refine ⟨⟨wOver (wV ((v : Int) / 18446744073709551616) ((v : Int) % 18446744073709551616) * 10), ?_⟩, hb⟩
  · rw [wV_div (by omega)]
    have hc : ((v * 10 : Nat) : Int) = (v : Int) * 10 := by omega
    have hv2 : 0 ≤ (v : Int) * 10 ∧ (v : Int) * 10 < 340282366920938463463374607431768211456 := by omega
    rw [hc]
    generalize (v : Int) * 10 = u at *
    have h1 : wHigh u = u / 18446744073709551616 := by unfold wHigh; omega
    have h2 : wLow u = u % 18446744073709551616 := by unfold wLow; omega
    rw [h1, h2]
theorem wdiv_bd (V : Nat) (h : V < 340282366920938463463374607431768211456) : 0 ≤ (V : Int) / 18446744073709551616 ∧ (V : Int) / 18446744073709551616 ≤ 18446744073709551615 ∧ 0 ≤ (V : Int) % 18446744073709551616 ∧ (V : Int) % 18446744073709551616 ≤ 18446744073709551615 := by omega
theorem lt_big {V : Nat} (h : V < 10000000000000000000000000000000000) : V < 340282366920938463463374607431768211456 := by omega
theorem pow_le10 {v i k : Nat} {M : Nat} (h : v * 10 ^ k < M) (hi : i < k) : v * 10 ^ i * 10 < M := by
  refine Nat.lt_of_le_of_lt ?_ h
  rw [Nat.mul_assoc, ← Nat.pow_succ]
  exact Nat.mul_le_mul_left _ (Nat.pow_le_pow_right (by decide) hi)
theorem ret_sb2 {a b : ByteArray} (h : a = b) : Ending.returned (.string a) = .returned (.string b) := by rw [h]
set_option maxHeartbeats 6400000 in
set_option maxRecDepth 100000 in
theorem decitJust_walk (ng : Bool) (h l x : Int) (h0 : 0 ≤ h) (h1 : h ≤ 18446744073709551615) (l0 : 0 ≤ l) (l1 : l ≤ 18446744073709551615) (e0 : -9223372036854775808 ≤ x) (e1 : x ≤ 9223372036854775807) (w : World) (hL : Laid15 w) :
    Calls Tryd.prog 7 #[.bool ng, .agg #[.int .u64 h, .int .u64 l], .int .i64 x] w fun e w' => e = .returned (.bool true) ∧ Below w.heap.size w w' := by
  have HL := Lib.hid hL
  clear hL
  have AW := Lib.hid awake15
  by_cases hr : x < -7000 ∨ 7000 < x
  · rcases hr with hr | hr
    all_goals
      go_enter Tryd.func7, Tryd.ntmps7
      go_wp2_with fail
      with_reducible refine (AW.out _ (laid15_below HL.out (by repeat' (first | (with_reducible assumption) | (with_reducible exact Below.refl _ _) | (with_reducible refine below_drewN ?_ _) | (with_reducible refine Below.drew ?_) | (with_reducible refine Below.setCell ?_ ?_ _) | (with_reducible refine Below.alloc ?_ ?_ _) | omega | (simp; done) | (simp; omega))))).mono ?_
      rintro e w1 ⟨rfl, hb1⟩
      have hw1 : Below w.heap.size w w1 := Below.trans (by repeat' (first | (with_reducible assumption) | (with_reducible exact Below.refl _ _) | (with_reducible refine below_drewN ?_ _) | (with_reducible refine Below.drew ?_) | (with_reducible refine Below.setCell ?_ ?_ _) | (with_reducible refine Below.alloc ?_ ?_ _) | omega | (simp; done) | (simp; omega))) (hb1.mono (by first | assumption | (simp; done) | (simp; omega)))
      have hz1 := hw1.size
      clear hb1
      go_wp2_with fail
      go_ret
      exact ⟨rfl, by repeat' (first | (with_reducible assumption) | (with_reducible exact Below.refl _ _) | (with_reducible refine below_drewN ?_ _) | (with_reducible refine Below.drew ?_) | (with_reducible refine Below.setCell ?_ ?_ _) | (with_reducible refine Below.alloc ?_ ?_ _) | omega | (simp; done) | (simp; omega))⟩
  · have x0 : -7000 ≤ x := by omega
    have x1 : x ≤ 7000 := by omega
    obtain ⟨n, hn⟩ : ∃ n : Nat, wN h l = n := ⟨_, rfl⟩
    have hnV : (n : Int) = h * 18446744073709551616 + l := by rw [← hn]; unfold wN wV; omega
    have hn1 : h = (n : Int) / 18446744073709551616 := by omega
    have hn2 : l = (n : Int) % 18446744073709551616 := by omega
    have hnb : n < 340282366920938463463374607431768211456 := by omega
    obtain ⟨d1, d39⟩ := wN_digits h0 h1 l0 l1
    rw [hn] at d1 d39
    have TX0 := fun (w : World) => refText_any h l h0 h1 l0 l1 w
    have IT0 := fun (w : World) => int5_any x (by omega) (by omega) w
    rw [hn] at TX0
    obtain ⟨D, hD⟩ : ∃ D : ByteArray, (⟨(Lib.decDigits n).toArray⟩ : ByteArray) = D := ⟨_, rfl⟩
    obtain ⟨I, hI⟩ : ∃ I : ByteArray, (⟨(Lib.itoa x).toArray⟩ : ByteArray) = I := ⟨_, rfl⟩
    rw [hD] at TX0
    rw [hI] at IT0
    have hDl : D.data.toList = Lib.decDigits n := by rw [← hD]
    have hIl : I.data.toList = Lib.itoa x := by rw [← hI]
    obtain ⟨j1, j2, j3⟩ := just_text ng n x d39 x0 x1
    obtain ⟨S, hS⟩ : ∃ S : ByteArray, S = if ng then ({ data := #[45] } : ByteArray) ++ (D ++ { data := #[101] } ++ I) else D ++ { data := #[101] } ++ I := ⟨_, rfl⟩
    have hSl : S.data.toList = (if ng then [45] else []) ++ (Lib.decDigits n ++ 101 :: Lib.itoa x) := by
      rw [hS]
      cases ng
      · simp [hDl, hIl]
      · rw [if_pos rfl, one_cat]
        simp [hDl, hIl]
    rw [← hSl] at j1 j2 j3
    have hSs : S.size ≤ 60 := by
      have e : S.data.toList.length = S.size := by simp
      omega
    have hDs : D.size ≤ 39 := by
      have e : D.data.toList.length = D.size := by simp
      rw [← e, hDl]; exact d39
    have hIs : I.size ≤ 60 := by
      have e : I.data.toList.length = I.size := by simp
      have e2 : S.data.toList.length = S.size := by simp
      rw [hSl, List.length_append, List.length_append, List.length_cons, ← hIl, e] at e2
      omega
    have hDI : D.size + 1 ≤ 60 := by omega
    have hDI2 : D.size + 1 + I.size ≤ 160 := by omega
    have hDI3 : 1 + (D.size + 1 + I.size) ≤ 260 := by omega
    have PA0 := fun (w : World) (hM : MaxAt w) => decParse_any S (by omega) (idx_ascii S (by omega) j3) (fun _ => idx_ascii _ (by rw [ByteArray.size_extract]; omega) (fun c hc => by
      rw [ext_rest] at hc
      exact j3 c (List.mem_of_mem_drop hc))) w hM
    obtain ⟨⟨r1, r2, r3⟩, hR⟩ : ∃ R, finR ng x (Lib.trimLeftB (Lib.decDigits n) 48) = R := ⟨_, rfl⟩
    have PA : Hid (∀ (w : World), MaxAt w → Calls Tryd.prog 11 #[.string S] w fun e w' => e = .returned (.tuple #[.int .u64 r1, .int .u64 r2, .int .i64 r3]) ∧ Below w.heap.size w w') := Lib.hid (by
      intro w hM
      refine (PA0 w hM).mono ?_
      rintro e w' ⟨hr, hb⟩
      unfold DecRet at hr
      rw [j1, hR] at hr
      exact ⟨hr, hb⟩)
    have JF := just_fin ng n hnb x x0 x1
    rw [hR, ← hn1, ← hn2] at JF
    have JN := Lib.hid (fun (w : World) => refJoin_any ng h l x h0 h1 l0 l1 (by omega) (by omega) w)
    have TX := Lib.hid TX0
    have IT := Lib.hid IT0
    have HS := Lib.hid hS
    have HN := Lib.hid (show h = (n : Int) / 18446744073709551616 ∧ l = (n : Int) % 18446744073709551616 from ⟨hn1, hn2⟩)
    have HNB := Lib.hid hnb
    have JF := Lib.hid JF
    have hk1 : ({ data := #[101] } : ByteArray).size = 1 := rfl
    have hk2 : ({ data := #[45] } : ByteArray).size = 1 := rfl
    clear hr hnV hn hn1 hn2 hnb d1 d39 TX0 IT0 hD hI hDl hIl j1 j2 j3 hS hSl PA0 hR
    go_enter Tryd.func7, Tryd.ntmps7
    go_wp2_with fail
    with_reducible refine (AW.out _ (laid15_below HL.out (by repeat' (first | (with_reducible assumption) | (with_reducible exact Below.refl _ _) | (with_reducible refine below_drewN ?_ _) | (with_reducible refine Below.drew ?_) | (with_reducible refine Below.setCell ?_ ?_ _) | (with_reducible refine Below.alloc ?_ ?_ _) | omega | (simp; done) | (simp; omega))))).mono ?_
    rintro e w1 ⟨rfl, hb1⟩
    have F1 : W2 w1 w.heap.size h l := (W2.new w _ h l).beyond hb1
    have hw1 : Below w.heap.size w w1 := Below.trans (by repeat' (first | (with_reducible assumption) | (with_reducible exact Below.refl _ _) | (with_reducible refine below_drewN ?_ _) | (with_reducible refine Below.drew ?_) | (with_reducible refine Below.setCell ?_ ?_ _) | (with_reducible refine Below.alloc ?_ ?_ _) | omega | (simp; done) | (simp; omega))) (hb1.mono (by first | assumption | (simp; done) | (simp; omega)))
    have hz1 := hw1.size
    have HF1 := Lib.hid F1
    obtain ⟨f0, f1, fz, fl⟩ := F1
    clear hb1
    go_wp2_with fail
    with_reducible refine (TX.out _).mono ?_
    rintro e w2 ⟨rfl, hb2⟩
    have HF2 := Lib.hid (HF1.out.beyond hb2)
    have hw2 : Below w.heap.size w w2 := hw1.trans (hb2.mono hz1)
    have hz2 := hw2.size
    clear hb2 f0 f1 fz fl HF1
    go_wp2_with fail
    with_reducible refine (IT.out _).mono ?_
    rintro e w3 ⟨rfl, hb3⟩
    have HF3 := Lib.hid (HF2.out.beyond hb3)
    have hw3 : Below w.heap.size w w3 := hw2.trans (hb3.mono hz2)
    have hz3 := hw3.size
    clear hb3 HF2
    go_upto_if 32 with fail
    go_cut [7] (fun y W => y = .string S ∧ Below w.heap.size w W ∧ Hid (W2 W w.heap.size h l))
    case first =>
      have hS := HS.out
      cases ng
      · obtain rfl : S = _ := hS
        go_wp2_with fail
        go_meet
        exact ⟨rfl, hw3, HF3⟩
      · obtain rfl : S = _ := hS
        go_wp2_with fail
        go_meet
        exact ⟨rfl, hw3, HF3⟩
    case rest =>
    obtain ⟨rfl, hbw, HF4⟩ := hcut
    have hz4 := hbw.size
    clear HF3 HS TX IT
    go_wp2_with fail
    with_reducible refine (PA.out _ (laid15_max (laid15_below HL.out hbw))).mono ?_
    rintro e w5 ⟨rfl, hb5⟩
    have HF5 := Lib.hid (HF4.out.beyond hb5)
    have hw5 : Below w.heap.size w w5 := hbw.trans (hb5.mono hz4)
    have hz5 := hw5.size
    have F5 := HF5.out
    obtain ⟨f0, f1, fz, fl⟩ := F5
    clear hb5 HF4
    go_wp2_with fail
    with_reducible refine (JN.out _).mono ?_
    rintro e w6 ⟨rfl, hb6⟩
    have HF6 := Lib.hid (HF5.out.beyond hb6)
    have hw6 : Below w.heap.size w w6 := hw5.trans (hb6.mono hz5)
    have hz6 := hw6.size
    clear hb6 HF5 f0 f1 fz fl
    rcases JF.out with ⟨hrr, hno⟩ | ⟨V, X, hrr, hok, hV, X0, X1, hpw, hbig, hsame⟩
    · simp only [Prod.mk.injEq] at hrr
      obtain ⟨rfl, rfl, rfl⟩ := hrr
      rw [hno]
      have SP := Lib.hid (fun (w : World) => deciSplit_any 0 0 (by decide) (by decide) (by decide) (by decide) w)
      clear JF hno
      go_wp2_with fail
      with_reducible refine (SP.out _).mono ?_
      rintro e w7 ⟨rfl, hb7⟩
      have hw7 : Below w.heap.size w w7 := hw6.trans (hb7.mono hz6)
      have hz7 := hw7.size
      clear hb7
      go_wp2_with fail
      go_ret
      exact ⟨by first | rfl | (simp; done), by repeat' (first | (with_reducible assumption) | (with_reducible exact Below.refl _ _) | (with_reducible refine below_drewN ?_ _) | (with_reducible refine Below.drew ?_) | (with_reducible refine Below.setCell ?_ ?_ _) | (with_reducible refine Below.alloc ?_ ?_ _) | omega | (simp; done) | (simp; omega))⟩
    · have HPW := Lib.hid hpw
      have HBIG := Lib.hid hbig
      clear hpw hbig
      simp only [Prod.mk.injEq] at hrr
      obtain ⟨hr1, hr2, rfl⟩ := hrr
      obtain ⟨v0, v1, v2, v3⟩ := wdiv_bd V (lt_big hV)
      have hbk := back_kind15 ng ((V : Int) / 18446744073709551616) ((V : Int) % 18446744073709551616) X v0 v2 hok
      have hpl := back_plain15 ng ((V : Int) / 18446744073709551616) ((V : Int) % 18446744073709551616) X v0 v2 hok
      clear hV
      cases hj : jOk h l x
      · obtain ⟨k1, k2, k3, k4, k5, k6, k7, k8⟩ := hbk
        rw [← hr1, ← hr2] at hpl k3 k4
        rw [← hr1] at k1 k2 k5 k6 k7
        rw [← hr2] at k8
        have b0 : 0 ≤ r2 ∧ r2 ≤ 18446744073709551615 := by rw [k8]; exact ⟨v2, v3⟩
        have SP := Lib.hid (fun (w : World) => deciSplit_any r1 r2 k6 k7 b0.1 b0.2 w)
        rw [k1, k2, k3, k4, k5] at SP
        have PL := Lib.hid (fun (w : World) => deciPlain_any r1 r2 k6 k7 b0.1 b0.2 w)
        rw [hpl] at PL
        clear v0 v1 v2 v3
        obtain ⟨A, hA⟩ : ∃ A : Nat, (X - x).toNat = A := ⟨_, rfl⟩
        obtain ⟨B, hB⟩ : ∃ B : Nat, (x - X).toNat = B := ⟨_, rfl⟩
        rw [hA, hB] at HPW
        rw [hB] at HBIG
        have hAB : (A : Int) - B = X - x := by omega
        have hAB2 : A = 0 ∨ B = 0 := by omega
        have T1 := Lib.hid (fun (i : Nat) (hi : i < A) (w : World) => times10 (V * 10 ^ i) (pow_le10 (by rw [HPW.out]; exact HBIG.out) hi) w)
        have T2 := Lib.hid (fun (i : Nat) (hi : i < B) (w : World) => times10 (n * 10 ^ i) (pow_le10 HBIG.out hi) w)
        have HAB := Lib.hid hAB2
        have hAm : A ≤ 14000 := by omega
        have hBm : B ≤ 14000 := by omega
        clear JF hr1 hr2 hpl k1 k2 k3 k4 k5 k6 k7 k8 b0 hsame hok hA hB hAB2
        go_wp2_with fail
        with_reducible refine (SP.out _).mono ?_
        rintro e w7 ⟨rfl, hb7⟩
        have HF7 := Lib.hid (HF6.out.beyond hb7)
        have hw7 : Below w.heap.size w w7 := hw6.trans (hb7.mono hz6)
        have hz7 := hw7.size
        clear hb7 HF6 SP
        go_wp2_with fail
        obtain ⟨g, hg⟩ : ∃ g, w7.heap.size = g := ⟨_, rfl⟩
        have hgw : w.heap.size < g := by rw [← hg]; exact HF7.out.2.2.2
        have ST := Lib.hid (show W2 (w7.alloc (.cells #[.int .u64 ((V : Int) / 18446744073709551616), .int .u64 ((V : Int) % 18446744073709551616)] 31)) g (((V * 10 ^ 0 : Nat) : Int) / 18446744073709551616) (((V * 10 ^ 0 : Nat) : Int) % 18446744073709551616) ∧ W2 (w7.alloc (.cells #[.int .u64 ((V : Int) / 18446744073709551616), .int .u64 ((V : Int) % 18446744073709551616)] 31)) w.heap.size (((n * 10 ^ 0 : Nat) : Int) / 18446744073709551616) (((n * 10 ^ 0 : Nat) : Int) % 18446744073709551616) ∧ Below w.heap.size w (w7.alloc (.cells #[.int .u64 ((V : Int) / 18446744073709551616), .int .u64 ((V : Int) % 18446744073709551616)] 31)) by
          have hb := (Below.refl w7.heap.size w7).alloc (Nat.le_refl _) (.cells #[.int .u64 ((V : Int) / 18446744073709551616), .int .u64 ((V : Int) % 18446744073709551616)] 31)
          rw [Nat.pow_zero, Nat.mul_one, Nat.mul_one, ← hg, ← HN.out.1, ← HN.out.2]
          exact ⟨W2.new _ _ _ _, HF7.out.beyond hb, hw7.trans (hb.mono hz7)⟩)
        clear HF7 hw7 hz7
        generalize w7.alloc (.cells #[.int .u64 ((V : Int) / 18446744073709551616), .int .u64 ((V : Int) % 18446744073709551616)] 31) = w8 at *
        simp only [hg] at *
        go_loopw [17] (fun y W => ∃ i : Nat, i ≤ A ∧ y = .int .i64 (X - i) ∧ Hid (W2 W g (((V * 10 ^ i : Nat) : Int) / 18446744073709551616) (((V * 10 ^ i : Nat) : Int) % 18446744073709551616)) ∧ Hid (W2 W w.heap.size (((n * 10 ^ 0 : Nat) : Int) / 18446744073709551616) (((n * 10 ^ 0 : Nat) : Int) % 18446744073709551616)) ∧ Below w.heap.size w W) (fun y _ => (intOf y - x).toNat)
        case atStart => exact ⟨0, Nat.zero_le _, by first | rfl | (simp; done), Lib.hid ST.out.1, Lib.hid ST.out.2.1, ST.out.2.2⟩
        case round =>
          obtain ⟨i, hi, rfl, HG, HF, hbw2⟩ := hrel
          obtain ⟨wo, rfl⟩ : ∃ wo : World, wo = wr := ⟨_, rfl⟩
          have hzo := hbw2.size
          clear ST
          by_cases hlt : i < A
          · have hcmp : x < X - (i : Int) := by rcases HAB.out with h | h <;> omega
            have TT := T1.out i hlt
            have HG2 := Lib.hid (show V * 10 ^ (i + 1) = V * 10 ^ i * 10 by rw [Nat.pow_succ, Nat.mul_assoc])
            obtain ⟨a1, ha1⟩ : ∃ v : Int, ((V * 10 ^ i : Nat) : Int) / 18446744073709551616 = v := ⟨_, rfl⟩
            obtain ⟨a2, ha2⟩ : ∃ v : Int, ((V * 10 ^ i : Nat) : Int) % 18446744073709551616 = v := ⟨_, rfl⟩
            obtain ⟨b1, hb1⟩ : ∃ v : Int, ((V * 10 ^ i * 10 : Nat) : Int) / 18446744073709551616 = v := ⟨_, rfl⟩
            obtain ⟨b2, hb2⟩ : ∃ v : Int, ((V * 10 ^ i * 10 : Nat) : Int) % 18446744073709551616 = v := ⟨_, rfl⟩
            rw [ha1, ha2] at HG
            simp only [ha1, ha2, hb1, hb2] at TT
            have TT := Lib.hid TT
            have HBB := Lib.hid (show ((V * 10 ^ (i + 1) : Nat) : Int) / 18446744073709551616 = b1 ∧ ((V * 10 ^ (i + 1) : Nat) : Int) % 18446744073709551616 = b2 by rw [HG2.out]; exact ⟨hb1, hb2⟩)
            have G := HG.out
            obtain ⟨c0, c1, cz, cl⟩ := G
            clear ha1 ha2 hb1 hb2 HG2
            go_wp2_with fail
            with_reducible refine (TT.out _).mono ?_
            rintro e w9 ⟨⟨o, rfl⟩, hb9⟩
            have G9 := HG.out.beyond hb9
            have F9 := HF.out.beyond hb9
            have hw9 : Below w.heap.size w w9 := hbw2.trans (hb9.mono hzo)
            have S1 := Lib.hid (G9.setAll b1 b2)
            have S2 := Lib.hid (F9.setOther (g' := g) (by omega) (.int .u64 b1) (.int .u64 b2))
            have hw10 := (hw9.setCell (p := ⟨g, 0, none⟩) (by show w.heap.size ≤ g; omega) (.int .u64 b1)).setCell (p := ⟨g, 1, none⟩) (by show w.heap.size ≤ g; omega) (.int .u64 b2)
            have k0 := G9.1
            have k1 := G9.2.1
            have kz0 := G9.2.2.1 0
            have kz1 := G9.2.2.1 1
            have kl := G9.2.2.2
            clear hb9 F9 c0 c1 cz cl HG HF
            go_wp2_with fail
            go_roundw
            case rel => exact ⟨i + 1, by omega, by go_num, Lib.hid (by rw [HBB.out.1, HBB.out.2]; exact S1.out), S2, hw10⟩
            case measure => first | (simp [intOf]; done) | (simp [intOf]; omega)
          · obtain rfl : i = A := by omega
            have hcmp : ¬ x < X - (i : Int) := by rcases HAB.out with h | h <;> omega
            clear T1
            go_wp2_with fail
            go_loopw [17] (fun y W => ∃ j : Nat, j ≤ B ∧ y = .int .i64 (X - i + j) ∧ Hid (W2 W g (((V * 10 ^ i : Nat) : Int) / 18446744073709551616) (((V * 10 ^ i : Nat) : Int) % 18446744073709551616)) ∧ Hid (W2 W w.heap.size (((n * 10 ^ j : Nat) : Int) / 18446744073709551616) (((n * 10 ^ j : Nat) : Int) % 18446744073709551616)) ∧ Below w.heap.size w W) (fun y _ => (x - intOf y).toNat)
            case atStart => exact ⟨0, Nat.zero_le _, by first | rfl | (simp; done), HG, HF, hbw2⟩
            case round =>
              obtain ⟨j, hj2, rfl, HG3, HF3, hbw3⟩ := hrel
              obtain ⟨wp, rfl⟩ : ∃ wp : World, wp = wr := ⟨_, rfl⟩
              have hzp := hbw3.size
              clear HG HF hbw2 hzo
              by_cases hltj : j < B
              · have hcmp2 : X - (i : Int) + (j : Int) < x := by rcases HAB.out with h | h <;> omega
                have TT := T2.out j hltj
                have HG2 := Lib.hid (show n * 10 ^ (j + 1) = n * 10 ^ j * 10 by rw [Nat.pow_succ, Nat.mul_assoc])
                obtain ⟨a1, ha1⟩ : ∃ v : Int, ((n * 10 ^ j : Nat) : Int) / 18446744073709551616 = v := ⟨_, rfl⟩
                obtain ⟨a2, ha2⟩ : ∃ v : Int, ((n * 10 ^ j : Nat) : Int) % 18446744073709551616 = v := ⟨_, rfl⟩
                obtain ⟨b1, hb1⟩ : ∃ v : Int, ((n * 10 ^ j * 10 : Nat) : Int) / 18446744073709551616 = v := ⟨_, rfl⟩
                obtain ⟨b2, hb2⟩ : ∃ v : Int, ((n * 10 ^ j * 10 : Nat) : Int) % 18446744073709551616 = v := ⟨_, rfl⟩
                rw [ha1, ha2] at HF3
                simp only [ha1, ha2, hb1, hb2] at TT
                have TT := Lib.hid TT
                have HBB := Lib.hid (show ((n * 10 ^ (j + 1) : Nat) : Int) / 18446744073709551616 = b1 ∧ ((n * 10 ^ (j + 1) : Nat) : Int) % 18446744073709551616 = b2 by rw [HG2.out]; exact ⟨hb1, hb2⟩)
                have G := HF3.out
                obtain ⟨c0, c1, cz, cl⟩ := G
                clear ha1 ha2 hb1 hb2 HG2
                go_wp2_with fail
                with_reducible refine (TT.out _).mono ?_
                rintro e w9 ⟨⟨o, rfl⟩, hb9⟩
                have G9 := HF3.out.beyond hb9
                have F9 := HG3.out.beyond hb9
                have hw9 : Below w.heap.size w w9 := hbw3.trans (hb9.mono hzp)
                have S1 := Lib.hid (G9.setAll b1 b2)
                have S2 := Lib.hid (F9.setOther (g' := w.heap.size) (by omega) (.int .u64 b1) (.int .u64 b2))
                have hw10 := (hw9.setCell (p := ⟨w.heap.size, 0, none⟩) (Nat.le_refl _) (.int .u64 b1)).setCell (p := ⟨w.heap.size, 1, none⟩) (Nat.le_refl _) (.int .u64 b2)
                have k0 := G9.1
                have k1 := G9.2.1
                have kz0 := G9.2.2.1 0
                have kz1 := G9.2.2.1 1
                have kl := G9.2.2.2
                clear hb9 F9 c0 c1 cz cl HG3 HF3
                go_wp2_with fail
                go_roundw
                case rel => exact ⟨j + 1, by omega, by go_num, S2, Lib.hid (by rw [HBB.out.1, HBB.out.2]; exact S1.out), hw10⟩
                case measure => first | (simp [intOf]; done) | (simp [intOf]; omega)
              · obtain rfl : j = B := by omega
                have hcmp2 : ¬ X - (i : Int) + (j : Int) < x := by rcases HAB.out with h | h <;> omega
                obtain ⟨u1, hu1⟩ : ∃ v : Int, ((V * 10 ^ i : Nat) : Int) / 18446744073709551616 = v := ⟨_, rfl⟩
                obtain ⟨u2, hu2⟩ : ∃ v : Int, ((V * 10 ^ i : Nat) : Int) % 18446744073709551616 = v := ⟨_, rfl⟩
                rw [← HPW.out, hu1, hu2] at HF3
                rw [hu1, hu2] at HG3
                clear T2 hu1 hu2
                go_wp2_with fail
                with_reducible refine (PL.out _).mono ?_
                rintro e w9 ⟨rfl, hb9⟩
                have hw9 : Below w.heap.size w w9 := hbw3.trans (hb9.mono hzp)
                have G9 := HG3.out.beyond hb9
                have F9 := HF3.out.beyond hb9
                obtain ⟨k0, k1, kz, kl⟩ := G9
                obtain ⟨m0, m1, mz, ml⟩ := F9
                clear hb9 HG3 HF3
                go_wp2_with fail
                go_ret
                exact ⟨by first | rfl | (simp; done), hw9⟩
      · obtain ⟨rfl, rfl⟩ := hsame hj
        rw [← HN.out.1, ← HN.out.2] at hr1 hr2
        subst hr1 hr2
        clear JF hsame HPW HBIG hbk hpl hok HN v0 v1 v2 v3
        go_wp2_with fail
        go_ret
        exact ⟨by first | rfl | (simp; done), by repeat' (first | (with_reducible assumption) | (with_reducible exact Below.refl _ _) | (with_reducible refine below_drewN ?_ _) | (with_reducible refine Below.drew ?_) | (with_reducible refine Below.setCell ?_ ?_ _) | (with_reducible refine Below.alloc ?_ ?_ _) | omega | (simp; done) | (simp; omega))⟩
end Go.Proofs.YtpgooajifehbbaaDoor
