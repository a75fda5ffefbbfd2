/- The contract of wide.Parse: the number whose digits a text is. Condition: none but the text's length being one of Go's. -/
import Derived.Test.YtiagngnpbpblaaaDoorWd2
import Derived.Test.YtiagngnpbpblaaaDoorPar
import Derived.Outline
namespace Go.Proofs.YtiagngnpbpblaaaDoor
open Go.RowKit
set_option linter.unusedSimpArgs false
set_option linter.unusedVariables false

set_option maxRecDepth 100000 in
set_option maxHeartbeats 800000 in
theorem wideParse_none (s : ByteArray) (hs : s.size ≤ maxLen) (h : s.size = 0 ∨ 39 < s.size ∨ (1 < s.size ∧ ∀ h : 0 < s.size, (s[0]'h).toNat = 48)) (w : World) :
    Calls Tryd.prog 13 #[.string s] w fun e w' =>
      e = .returned (.tuple #[.agg #[.int .u64 0, .int .u64 0], .bool false]) ∧ Below w.heap.size w w' := by
  unfold maxLen at hs
  have hE : s.toList.isEmpty = decide (s.size = 0) := by
    rw [ByteArray.toList_eq]
    have e : s.data.toList.length = s.size := by simp
    rw [← e]
    cases s.data.toList <;> simp
  by_cases h0 : s.size = 0
  · rw [decide_eq_true h0] at hE
    clear h h0
    go_enter Tryd.func13, Tryd.ntmps13
    go_wp2_with fail
    refine bodyPost_ret (v := .tuple #[.agg #[.int .u64 0, .int .u64 0], .bool false]) (by simp (maxDischargeDepth := 3) [results, Tryd.results13, go_sem]) rfl ?_
    exact ⟨rfl, by repeat' (first | (with_reducible assumption) | (with_reducible exact Below.refl _ _) | (with_reducible refine below_drewN ?_ _) | (with_reducible refine Below.drew ?_) | (with_reducible refine Below.setCell ?_ ?_ _) | (with_reducible refine Below.alloc ?_ ?_ _) | omega | (simp; done) | (simp; omega))⟩
  · rw [decide_eq_false h0] at hE
    by_cases h39 : 39 < s.size
    · clear h
      go_enter Tryd.func13, Tryd.ntmps13
      go_wp2_with fail
      refine bodyPost_ret (v := .tuple #[.agg #[.int .u64 0, .int .u64 0], .bool false]) (by simp (maxDischargeDepth := 3) [results, Tryd.results13, go_sem]) rfl ?_
      exact ⟨rfl, by repeat' (first | (with_reducible assumption) | (with_reducible exact Below.refl _ _) | (with_reducible refine below_drewN ?_ _) | (with_reducible refine Below.drew ?_) | (with_reducible refine Below.setCell ?_ ?_ _) | (with_reducible refine Below.alloc ?_ ?_ _) | omega | (simp; done) | (simp; omega))⟩
    · rcases h with h | h | ⟨h1, h2⟩
      · exact absurd h h0
      · exact absurd h h39
      · have hp : 0 < s.size := by omega
        have h3 := h2 hp
        have h4 : (((s[0]'hp).toNat : Int) == 48) = true := beq_t (by omega)
        have h5 : (s.size > 1) := h1
        clear h2 h3
        go_enter Tryd.func13, Tryd.ntmps13
        go_wp2_with fail
        refine bodyPost_ret (v := .tuple #[.agg #[.int .u64 0, .int .u64 0], .bool false]) (by simp (maxDischargeDepth := 3) [results, Tryd.results13, go_sem]) rfl ?_
        exact ⟨rfl, by repeat' (first | (with_reducible assumption) | (with_reducible exact Below.refl _ _) | (with_reducible refine below_drewN ?_ _) | (with_reducible refine Below.drew ?_) | (with_reducible refine Below.setCell ?_ ?_ _) | (with_reducible refine Below.alloc ?_ ?_ _) | omega | (simp; done) | (simp; omega))⟩
theorem head_of (s : ByteArray) (h : 0 < s.size) : s.data.toList.head? = some (s[0]'h) := by
  rw [List.head?_eq_getElem?, List.getElem?_eq_getElem (by simpa using h)]
  rfl
set_option maxHeartbeats 4000000 in
set_option maxRecDepth 100000 in
theorem wideParse_some (s : ByteArray) (hs : s.size ≤ 39) (hp : 0 < s.size) (h : s.size = 1 ∨ (s[0]'hp).toNat ≠ 48) (w : World) :
    Calls Tryd.prog 13 #[.string s] w fun e w' =>
      e = .returned (.tuple #[.agg #[.int .u64 (pV (parseOf s.data.toList) / 18446744073709551616), .int .u64 (pV (parseOf s.data.toList) % 18446744073709551616)], .bool (parseOf s.data.toList).isSome]) ∧ Below w.heap.size w w' := by
  have hlen : s.data.toList.length = s.size := by simp
  have hE : s.toList.isEmpty = false := by
    rw [ByteArray.toList_eq]
    cases hd : s.data.toList with
    | nil => rw [hd] at hlen; simp at hlen; omega
    | cons => rfl
  have h39 : ¬ 39 < s.size := by omega
  have HCAN : Hid (s.data.toList.length = 1 ∨ s.data.toList.head? ≠ some 48) := hide (by
    rcases h with h | h
    · exact Or.inl (by rw [hlen]; exact h)
    · refine Or.inr ?_
      rw [head_of s hp]
      intro hx
      exact h (by rw [Option.some.inj hx]; rfl))
  have hcase : ((((s[0]'hp).toNat : Int) == 48) = false) ∨ ((((s[0]'hp).toNat : Int) == 48) = true ∧ ¬ 1 < s.size) := by
    by_cases hx : (s[0]'hp).toNat = 48
    · refine Or.inr ⟨beq_t (by omega), ?_⟩
      rcases h with h | h
      · omega
      · exact absurd hx h
    · exact Or.inl (beq_f (by omega))
  clear h
  obtain ⟨P, hP⟩ : ∃ P, parseOf s.data.toList = P := ⟨_, rfl⟩
  rw [hP]
  have HP := Lib.hid hP
  have HL := Lib.hid hlen
  clear hP hlen
  go_enter Tryd.func13, Tryd.ntmps13
  go_upto_region 1 with fail
  go_cut [26] (fun b W => b = .bool false ∧ W = w.alloc (.cells #[.int .u64 0, .int .u64 0] 31))
  case first =>
    rcases hcase with hA | ⟨hA, hB⟩
    all_goals
      go_wp2_with fail
      go_meet
      exact ⟨by first | rfl | (simp; omega), rfl⟩
  case rest =>
    obtain ⟨rfl, rfl⟩ := hcut
    clear hE h39 hcase
    go_wp2_with fail
    go_loopg [31] s.size (fun g i wr => ∃ (k : Nat) (v : Int), i = .int .i64 k ∧ k ≤ s.size ∧ s.size - k ≤ g ∧ Hid ((s.data.toList.take k).all isDg = true) ∧ Hid ((decVal (s.data.toList.take k) : Int) = v) ∧ 0 ≤ v ∧ v ≤ 340282366920938463463374607431768211455 ∧
        wr.cell? ⟨w.heap.size, 0, none⟩ = some (.int .u64 0) ∧ wr.cell? ⟨w.heap.size, 1, none⟩ = some (.int .u64 0) ∧ wr.frozen? ⟨w.heap.size, 0, none⟩ = false ∧ wr.frozen? ⟨w.heap.size, 1, none⟩ = false ∧
        wr.cell? ⟨w.heap.size + 1, 0, none⟩ = some (.int .u64 (v / 18446744073709551616)) ∧ wr.cell? ⟨w.heap.size + 1, 1, none⟩ = some (.int .u64 (v % 18446744073709551616)) ∧ wr.frozen? ⟨w.heap.size + 1, 0, none⟩ = false ∧ wr.frozen? ⟨w.heap.size + 1, 1, none⟩ = false ∧
        w.heap.size + 1 < wr.heap.size ∧ Below w.heap.size w wr)
    case atStart =>
      refine ⟨0, 0, rfl, Nat.zero_le _, by omega, hide rfl, hide rfl, by omega, by omega, ?_⟩
      (repeat' apply And.intro) <;> first | (simp (maxDischargeDepth := 6) [go_sem]; done) | (simp; omega) | (repeat' (first | (with_reducible assumption) | (with_reducible exact Below.refl _ _) | (with_reducible refine below_drewN ?_ _) | (with_reducible refine Below.drew ?_) | (with_reducible refine Below.setCell ?_ ?_ _) | (with_reducible refine Below.alloc ?_ ?_ _) | omega | (simp; done) | (simp; omega)))
    case round =>
      obtain ⟨k, v, rfl, hk, hgm, HALL, HV, hv0, hv1, c0, c1, f0, f1, d0, d1, g0, g1, hz, hbw⟩ := hrel
      by_cases hlt : k < s.size
      · have hsn := decVal_snoc (s.data.toList.take k) s[k]
        rw [← take_snoc s k hlt] at hsn
        have hbyte : s[k].toNat < 256 := UInt8.toNat_lt _
        have hin : k < s.data.toList.length := by rw [HL.out]; exact hlt
        have hgk : s.data.toList[k] = s[k] := rfl
        have hal : (s.data.toList.take (k + 1)).all isDg = ((s.data.toList.take k).all isDg && isDg s[k]) := by rw [take_snoc s k hlt, List.all_append]; simp
        by_cases hd1 : s[k].toNat < 48
        · have hno : parseOf s.data.toList = none := parseOf_sign k hin (by rw [hgk]; unfold isDg; simp; omega)
          rw [HP.out] at hno
          subst hno
          clear hsn hal hgk
          go_wp2_with fail
          refine bodyPost_ret (v := .tuple #[.agg #[.int .u64 0, .int .u64 0], .bool false]) (by simp (maxDischargeDepth := 3) [results, Tryd.results13, go_sem, c0, c1]) rfl ?_
          exact ⟨sig_wide rfl rfl rfl, by repeat' (first | (with_reducible assumption) | (with_reducible exact Below.refl _ _) | (with_reducible refine below_drewN ?_ _) | (with_reducible refine Below.drew ?_) | (with_reducible refine Below.setCell ?_ ?_ _) | (with_reducible refine Below.alloc ?_ ?_ _) | omega | (simp; done) | (simp; omega))⟩
        · by_cases hd2 : 57 < s[k].toNat
          · have hno : parseOf s.data.toList = none := parseOf_sign k hin (by rw [hgk]; unfold isDg; simp; omega)
            rw [HP.out] at hno
            subst hno
            clear hsn hal hgk
            go_wp2_with fail
            refine bodyPost_ret (v := .tuple #[.agg #[.int .u64 0, .int .u64 0], .bool false]) (by simp (maxDischargeDepth := 3) [results, Tryd.results13, go_sem, c0, c1]) rfl ?_
            exact ⟨sig_wide rfl rfl rfl, by repeat' (first | (with_reducible assumption) | (with_reducible exact Below.refl _ _) | (with_reducible refine below_drewN ?_ _) | (with_reducible refine Below.drew ?_) | (with_reducible refine Below.setCell ?_ ?_ _) | (with_reducible refine Below.alloc ?_ ?_ _) | omega | (simp; done) | (simp; omega))⟩
          · have hdg : isDg s[k] = true := by unfold isDg; simp; omega
            rw [unhide HALL, hdg] at hal
            have HSN : Hid ((decVal (s.data.toList.take (k + 1)) : Int) = v * 10 + ((s[k].toNat : Int) - 48)) := hide (by have := unhide HV; omega)
            have HAL := Lib.hid hal
            clear hsn hal hgk hdg
            have hsub : IntKind.u8.wrap ((s[k].toNat : Int) - 48) = (s[k].toNat : Int) - 48 := IntWalk.u8_in _ (by omega)
            have hsub2 : IntKind.u64.wrap ((s[k].toNat : Int) - 48) = (s[k].toNat : Int) - 48 := IntWalk.u64_in _ (by omega)
            have tm := fun w => wideTimes_any (v / 18446744073709551616) (v % 18446744073709551616) 10 (by omega) (by omega) (by omega) (by omega) (by omega) (by omega) w
            have vV : wV (v / 18446744073709551616) (v % 18446744073709551616) = v := by unfold wV; omega
            rw [vV] at tm
            have p1 : 0 ≤ wHigh (v * 10) := by unfold wHigh; omega
            have p2 : wHigh (v * 10) ≤ 18446744073709551615 := by unfold wHigh; omega
            have p3 : 0 ≤ wLow (v * 10) := by unfold wLow; omega
            have p4 : wLow (v * 10) ≤ 18446744073709551615 := by unfold wLow; omega
            have p5 : 0 ≤ wOver (v * 10) := by unfold wOver; omega
            have p6 : wLow (v * 10) + wHigh (v * 10) * 18446744073709551616 + wOver (v * 10) * 340282366920938463463374607431768211456 = v * 10 := by unfold wLow wHigh wOver; omega
            generalize wHigh (v * 10) = xh at *
            generalize wLow (v * 10) = xl at *
            generalize wOver (v * 10) = xo at *
            have ad := fun w => wideAdd_any xh xl 0 ((s[k].toNat : Int) - 48) p1 p2 p3 p4 (by omega) (by omega) (by omega) (by omega) w
            have hS : wV xh xl + wV 0 ((s[k].toNat : Int) - 48) = xl + xh * 18446744073709551616 + ((s[k].toNat : Int) - 48) := by unfold wV; omega
            have hS1 : wHigh (wV xh xl + wV 0 ((s[k].toNat : Int) - 48)) = (xl + xh * 18446744073709551616 + ((s[k].toNat : Int) - 48)) / 18446744073709551616 % 18446744073709551616 := by rw [hS]; rfl
            have hS2 : wLow (wV xh xl + wV 0 ((s[k].toNat : Int) - 48)) = (xl + xh * 18446744073709551616 + ((s[k].toNat : Int) - 48)) % 18446744073709551616 := by rw [hS]; rfl
            have hS3 : wOver (wV xh xl + wV 0 ((s[k].toNat : Int) - 48)) = (xl + xh * 18446744073709551616 + ((s[k].toNat : Int) - 48)) / 340282366920938463463374607431768211456 := by rw [hS]; rfl
            generalize wHigh (wV xh xl + wV 0 ((s[k].toNat : Int) - 48)) = yh at *
            generalize wLow (wV xh xl + wV 0 ((s[k].toNat : Int) - 48)) = yl at *
            generalize wOver (wV xh xl + wV 0 ((s[k].toNat : Int) - 48)) = yo at *
            have HS1 := Lib.hid hS1
            have HS2 := Lib.hid hS2
            have HS3 := Lib.hid hS3
            have P6 := Lib.hid p6
            have TM := Lib.hid tm
            have hz0 : w.heap.size < wr.heap.size := by omega
            clear vV hS hS1 hS2 hS3 p6 tm
            have AD := Lib.hid ad
            have OF := Lib.hid (fun w => wideOf_any ((s[k].toNat : Int) - 48) w)
            clear ad
            go_wp2_with fail
            with_reducible refine (TM.out _).mono ?_
            rintro e w2 ⟨rfl, hb⟩
            have a0 := (hb.cell (p := ⟨w.heap.size, 0, none⟩) hz0).trans c0
            have a1 := (hb.cell (p := ⟨w.heap.size, 1, none⟩) hz0).trans c1
            have a2 := (hb.frozen (p := ⟨w.heap.size, 0, none⟩) hz0).trans f0
            have a3 := (hb.frozen (p := ⟨w.heap.size, 1, none⟩) hz0).trans f1
            have b0 := (hb.cell (p := ⟨w.heap.size + 1, 0, none⟩) hz).trans d0
            have b1 := (hb.cell (p := ⟨w.heap.size + 1, 1, none⟩) hz).trans d1
            have b2 := (hb.frozen (p := ⟨w.heap.size + 1, 0, none⟩) hz).trans g0
            have b3 := (hb.frozen (p := ⟨w.heap.size + 1, 1, none⟩) hz).trans g1
            have hz2 := hb.size
            have z0 : w.heap.size + 1 < w2.heap.size := by omega
            have z1 : w.heap.size < w2.heap.size := by omega
            have z2 : w.heap.size < w2.heap.size + 1 := by omega
            have z3 : w.heap.size + 1 < w2.heap.size + 1 := by omega
            have z4 : w.heap.size < w2.heap.size + 1 + 1 := by omega
            have z5 : w.heap.size + 1 < w2.heap.size + 1 + 1 := by omega
            have z6 : w2.heap.size < w2.heap.size + 1 := by omega
            have z7 : w2.heap.size < w2.heap.size + 1 + 1 := by omega
            have z8 : w2.heap.size + 1 < w2.heap.size + 1 + 1 := by omega
            have hb2 := hbw.trans (hb.mono (by omega))
            clear hb c0 c1 f0 f1 d0 d1 g0 g1 hbw
            go_upto_region 10 with fail
            go_cut [8, 9] (fun s8 s9 W => ∃ c : Nat, s8 = .pointer (some ⟨c, 0, none⟩) ∧ s9 = .bool (decide (0 < yo)) ∧ W.cell? ⟨c, 0, none⟩ = some (.int .u64 yh) ∧ W.cell? ⟨c, 1, none⟩ = some (.int .u64 yl) ∧ W.cell? ⟨w.heap.size, 0, none⟩ = some (.int .u64 0) ∧ W.cell? ⟨w.heap.size, 1, none⟩ = some (.int .u64 0) ∧ W.frozen? ⟨w.heap.size, 0, none⟩ = false ∧ W.frozen? ⟨w.heap.size, 1, none⟩ = false ∧ W.cell? ⟨w.heap.size + 1, 0, none⟩ = some (.int .u64 (v / 18446744073709551616)) ∧ W.cell? ⟨w.heap.size + 1, 1, none⟩ = some (.int .u64 (v % 18446744073709551616)) ∧ W.frozen? ⟨w.heap.size + 1, 0, none⟩ = false ∧ W.frozen? ⟨w.heap.size + 1, 1, none⟩ = false ∧ w.heap.size + 1 < W.heap.size ∧ c ≠ w.heap.size ∧ c ≠ w.heap.size + 1 ∧ Below w.heap.size w W)
            case first =>
              go_region_held3 (fun W => W.cell? ⟨w2.heap.size, 0, none⟩ = some (.int .u64 xh) ∧ W.cell? ⟨w2.heap.size, 1, none⟩ = some (.int .u64 xl) ∧ W.cell? ⟨w.heap.size, 0, none⟩ = some (.int .u64 0) ∧ W.cell? ⟨w.heap.size, 1, none⟩ = some (.int .u64 0) ∧ W.cell? ⟨w.heap.size + 1, 0, none⟩ = some (.int .u64 (v / 18446744073709551616)) ∧ W.cell? ⟨w.heap.size + 1, 1, none⟩ = some (.int .u64 (v % 18446744073709551616)) ∧ W.frozen? ⟨w.heap.size, 0, none⟩ = false ∧ W.frozen? ⟨w.heap.size, 1, none⟩ = false ∧ W.frozen? ⟨w.heap.size + 1, 0, none⟩ = false ∧ W.frozen? ⟨w.heap.size + 1, 1, none⟩ = false ∧ w2.heap.size < W.heap.size ∧ w.heap.size < W.heap.size ∧ w.heap.size + 1 < W.heap.size ∧ Below w.heap.size w W) (((try dsimp only); (repeat' apply And.intro) <;> (first | assumption | (simp [*, go_sem]; done) | omega | (simp; omega) | (repeat' (first | (with_reducible assumption) | (with_reducible exact Below.refl _ _) | (with_reducible refine below_drewN ?_ _) | (with_reducible refine Below.drew ?_) | (with_reducible refine Below.setCell ?_ ?_ _) | (with_reducible refine Below.alloc ?_ ?_ _) | omega | (simp; done) | (simp; omega)))))) (first | (go_at_call 41; (with_reducible refine (OF.out _).mono ?_); rintro e w4 ⟨rfl, hb4⟩; have c4_0 : w4.cell? ⟨w2.heap.size, 0, none⟩ = some (.int .u64 xh) := (hb4.cell (p := ⟨w2.heap.size, 0, none⟩) (by first | assumption | omega | (simp; done) | (simp; omega))).trans (by first | assumption | (simp [go_sem, *]; done)); have c4_1 : w4.cell? ⟨w2.heap.size, 1, none⟩ = some (.int .u64 xl) := (hb4.cell (p := ⟨w2.heap.size, 1, none⟩) (by first | assumption | omega | (simp; done) | (simp; omega))).trans (by first | assumption | (simp [go_sem, *]; done)); have c4_2 : w4.cell? ⟨w.heap.size, 0, none⟩ = some (.int .u64 0) := (hb4.cell (p := ⟨w.heap.size, 0, none⟩) (by first | assumption | omega | (simp; done) | (simp; omega))).trans (by first | assumption | (simp [go_sem, *]; done)); have f4_2 : w4.frozen? ⟨w.heap.size, 0, none⟩ = false := (hb4.frozen (p := ⟨w.heap.size, 0, none⟩) (by first | assumption | omega | (simp; done) | (simp; omega))).trans (by first | assumption | (simp [go_sem, *]; done)); have c4_3 : w4.cell? ⟨w.heap.size, 1, none⟩ = some (.int .u64 0) := (hb4.cell (p := ⟨w.heap.size, 1, none⟩) (by first | assumption | omega | (simp; done) | (simp; omega))).trans (by first | assumption | (simp [go_sem, *]; done)); have f4_3 : w4.frozen? ⟨w.heap.size, 1, none⟩ = false := (hb4.frozen (p := ⟨w.heap.size, 1, none⟩) (by first | assumption | omega | (simp; done) | (simp; omega))).trans (by first | assumption | (simp [go_sem, *]; done)); have c4_4 : w4.cell? ⟨w.heap.size + 1, 0, none⟩ = some (.int .u64 (v / 18446744073709551616)) := (hb4.cell (p := ⟨w.heap.size + 1, 0, none⟩) (by first | assumption | omega | (simp; done) | (simp; omega))).trans (by first | assumption | (simp [go_sem, *]; done)); have f4_4 : w4.frozen? ⟨w.heap.size + 1, 0, none⟩ = false := (hb4.frozen (p := ⟨w.heap.size + 1, 0, none⟩) (by first | assumption | omega | (simp; done) | (simp; omega))).trans (by first | assumption | (simp [go_sem, *]; done)); have c4_5 : w4.cell? ⟨w.heap.size + 1, 1, none⟩ = some (.int .u64 (v % 18446744073709551616)) := (hb4.cell (p := ⟨w.heap.size + 1, 1, none⟩) (by first | assumption | omega | (simp; done) | (simp; omega))).trans (by first | assumption | (simp [go_sem, *]; done)); have f4_5 : w4.frozen? ⟨w.heap.size + 1, 1, none⟩ = false := (hb4.frozen (p := ⟨w.heap.size + 1, 1, none⟩) (by first | assumption | omega | (simp; done) | (simp; omega))).trans (by first | assumption | (simp [go_sem, *]; done)); (try have o4_0 : w4.cell? ⟨w2.heap.size + 1, 0, none⟩ = some (.int .u64 0) := (hb4.cell (p := ⟨w2.heap.size + 1, 0, none⟩) (by first | assumption | omega | (simp; done) | (simp; omega))).trans (by first | assumption | (simp [go_sem, *]; done))); (try have p4_0 : w4.frozen? ⟨w2.heap.size + 1, 0, none⟩ = false := (hb4.frozen (p := ⟨w2.heap.size + 1, 0, none⟩) (by first | assumption | omega | (simp; done) | (simp; omega))).trans (by first | assumption | (simp [go_sem, *]; done))); (try have s4_0 : w2.heap.size + 1 < w4.heap.size := (by have hs := hb4.size; first | (simp at hs; omega) | omega)); (try have o4_1 : w4.cell? ⟨w2.heap.size + 1, 1, none⟩ = some (.int .u64 0) := (hb4.cell (p := ⟨w2.heap.size + 1, 1, none⟩) (by first | assumption | omega | (simp; done) | (simp; omega))).trans (by first | assumption | (simp [go_sem, *]; done))); (try have p4_1 : w4.frozen? ⟨w2.heap.size + 1, 1, none⟩ = false := (hb4.frozen (p := ⟨w2.heap.size + 1, 1, none⟩) (by first | assumption | omega | (simp; done) | (simp; omega))).trans (by first | assumption | (simp [go_sem, *]; done))); have hl4_0 : w2.heap.size < w4.heap.size := (by have hs := hb4.size; first | (simp at hs; omega) | omega); have hl4_1 : w.heap.size < w4.heap.size := (by have hs := hb4.size; first | (simp at hs; omega) | omega); have hl4_2 : w.heap.size + 1 < w4.heap.size := (by have hs := hb4.size; first | (simp at hs; omega) | omega); have hw4 : Below w.heap.size w w4 := Below.trans (by first | assumption | (repeat' (first | (with_reducible assumption) | (with_reducible exact Below.refl _ _) | (with_reducible refine below_drewN ?_ _) | (with_reducible refine Below.drew ?_) | (with_reducible refine Below.setCell ?_ ?_ _) | (with_reducible refine Below.alloc ?_ ?_ _) | omega | (simp; done) | (simp; omega)))) (hb4.mono (by first | assumption | omega | (simp; done) | (simp; omega))); clear hb4) | (go_at_call 40; (with_reducible refine (AD.out _).mono ?_); rintro e w3 ⟨rfl, hb3⟩; have c3_0 : w3.cell? ⟨w2.heap.size, 0, none⟩ = some (.int .u64 xh) := (hb3.cell (p := ⟨w2.heap.size, 0, none⟩) (by first | assumption | omega | (simp; done) | (simp; omega))).trans (by first | assumption | (simp [go_sem, *]; done)); have c3_1 : w3.cell? ⟨w2.heap.size, 1, none⟩ = some (.int .u64 xl) := (hb3.cell (p := ⟨w2.heap.size, 1, none⟩) (by first | assumption | omega | (simp; done) | (simp; omega))).trans (by first | assumption | (simp [go_sem, *]; done)); have c3_2 : w3.cell? ⟨w.heap.size, 0, none⟩ = some (.int .u64 0) := (hb3.cell (p := ⟨w.heap.size, 0, none⟩) (by first | assumption | omega | (simp; done) | (simp; omega))).trans (by first | assumption | (simp [go_sem, *]; done)); have f3_2 : w3.frozen? ⟨w.heap.size, 0, none⟩ = false := (hb3.frozen (p := ⟨w.heap.size, 0, none⟩) (by first | assumption | omega | (simp; done) | (simp; omega))).trans (by first | assumption | (simp [go_sem, *]; done)); have c3_3 : w3.cell? ⟨w.heap.size, 1, none⟩ = some (.int .u64 0) := (hb3.cell (p := ⟨w.heap.size, 1, none⟩) (by first | assumption | omega | (simp; done) | (simp; omega))).trans (by first | assumption | (simp [go_sem, *]; done)); have f3_3 : w3.frozen? ⟨w.heap.size, 1, none⟩ = false := (hb3.frozen (p := ⟨w.heap.size, 1, none⟩) (by first | assumption | omega | (simp; done) | (simp; omega))).trans (by first | assumption | (simp [go_sem, *]; done)); have c3_4 : w3.cell? ⟨w.heap.size + 1, 0, none⟩ = some (.int .u64 (v / 18446744073709551616)) := (hb3.cell (p := ⟨w.heap.size + 1, 0, none⟩) (by first | assumption | omega | (simp; done) | (simp; omega))).trans (by first | assumption | (simp [go_sem, *]; done)); have f3_4 : w3.frozen? ⟨w.heap.size + 1, 0, none⟩ = false := (hb3.frozen (p := ⟨w.heap.size + 1, 0, none⟩) (by first | assumption | omega | (simp; done) | (simp; omega))).trans (by first | assumption | (simp [go_sem, *]; done)); have c3_5 : w3.cell? ⟨w.heap.size + 1, 1, none⟩ = some (.int .u64 (v % 18446744073709551616)) := (hb3.cell (p := ⟨w.heap.size + 1, 1, none⟩) (by first | assumption | omega | (simp; done) | (simp; omega))).trans (by first | assumption | (simp [go_sem, *]; done)); have f3_5 : w3.frozen? ⟨w.heap.size + 1, 1, none⟩ = false := (hb3.frozen (p := ⟨w.heap.size + 1, 1, none⟩) (by first | assumption | omega | (simp; done) | (simp; omega))).trans (by first | assumption | (simp [go_sem, *]; done)); (try have o3_0 : w3.cell? ⟨w2.heap.size + 1, 0, none⟩ = some (.int .u64 0) := (hb3.cell (p := ⟨w2.heap.size + 1, 0, none⟩) (by first | assumption | omega | (simp; done) | (simp; omega))).trans (by first | assumption | (simp [go_sem, *]; done))); (try have p3_0 : w3.frozen? ⟨w2.heap.size + 1, 0, none⟩ = false := (hb3.frozen (p := ⟨w2.heap.size + 1, 0, none⟩) (by first | assumption | omega | (simp; done) | (simp; omega))).trans (by first | assumption | (simp [go_sem, *]; done))); (try have s3_0 : w2.heap.size + 1 < w3.heap.size := (by have hs := hb3.size; first | (simp at hs; omega) | omega)); (try have o3_1 : w3.cell? ⟨w2.heap.size + 1, 1, none⟩ = some (.int .u64 0) := (hb3.cell (p := ⟨w2.heap.size + 1, 1, none⟩) (by first | assumption | omega | (simp; done) | (simp; omega))).trans (by first | assumption | (simp [go_sem, *]; done))); (try have p3_1 : w3.frozen? ⟨w2.heap.size + 1, 1, none⟩ = false := (hb3.frozen (p := ⟨w2.heap.size + 1, 1, none⟩) (by first | assumption | omega | (simp; done) | (simp; omega))).trans (by first | assumption | (simp [go_sem, *]; done))); (try have o3_2 : w3.cell? ⟨w4.heap.size, 0, none⟩ = some (.int .u64 0) := (hb3.cell (p := ⟨w4.heap.size, 0, none⟩) (by first | assumption | omega | (simp; done) | (simp; omega))).trans (by first | assumption | (simp [go_sem, *]; done))); (try have p3_2 : w3.frozen? ⟨w4.heap.size, 0, none⟩ = false := (hb3.frozen (p := ⟨w4.heap.size, 0, none⟩) (by first | assumption | omega | (simp; done) | (simp; omega))).trans (by first | assumption | (simp [go_sem, *]; done))); (try have s3_2 : w4.heap.size < w3.heap.size := (by have hs := hb3.size; first | (simp at hs; omega) | omega)); (try have o3_3 : w3.cell? ⟨w4.heap.size, 1, none⟩ = some (.int .u64 0) := (hb3.cell (p := ⟨w4.heap.size, 1, none⟩) (by first | assumption | omega | (simp; done) | (simp; omega))).trans (by first | assumption | (simp [go_sem, *]; done))); (try have p3_3 : w3.frozen? ⟨w4.heap.size, 1, none⟩ = false := (hb3.frozen (p := ⟨w4.heap.size, 1, none⟩) (by first | assumption | omega | (simp; done) | (simp; omega))).trans (by first | assumption | (simp [go_sem, *]; done))); have hl3_0 : w2.heap.size < w3.heap.size := (by have hs := hb3.size; first | (simp at hs; omega) | omega); have hl3_1 : w.heap.size < w3.heap.size := (by have hs := hb3.size; first | (simp at hs; omega) | omega); have hl3_2 : w.heap.size + 1 < w3.heap.size := (by have hs := hb3.size; first | (simp at hs; omega) | omega); have hw3 : Below w.heap.size w w3 := Below.trans (by first | assumption | (repeat' (first | (with_reducible assumption) | (with_reducible exact Below.refl _ _) | (with_reducible refine below_drewN ?_ _) | (with_reducible refine Below.drew ?_) | (with_reducible refine Below.setCell ?_ ?_ _) | (with_reducible refine Below.alloc ?_ ?_ _) | omega | (simp; done) | (simp; omega)))) (hb3.mono (by first | assumption | omega | (simp; done) | (simp; omega))); clear hb3))
              all_goals
                go_wp2_with fail
                go_meet
                refine ⟨_, rfl, rfl, ?_⟩
                (repeat' apply And.intro) <;> (first | assumption | (simp (maxDischargeDepth := 6) [go_sem, *]; done) | omega | (simp; omega) | (repeat' (first | (with_reducible assumption) | (with_reducible exact Below.refl _ _) | (with_reducible refine below_drewN ?_ _) | (with_reducible refine Below.drew ?_) | (with_reducible refine Below.setCell ?_ ?_ _) | (with_reducible refine Below.alloc ?_ ?_ _) | omega | (simp; done) | (simp; omega))))
            case rest =>
              obtain ⟨c, rfl, rfl, e0, e1, a0, a1, a2, a3, b0, b1, b2, b3, z0, nc, nc1, hb2⟩ := hcut
              by_cases ho : xo = 0
              · have hob : (xo != 0) = false := bne_f ho
                by_cases ho2 : 0 < yo
                · have hno : parseOf s.data.toList = none := parseOf_great (k + 1) (by have := HSN.out; have := P6.out; have := HS3.out; omega)
                  rw [HP.out] at hno
                  subst hno
                  go_wp2_with fail
                  (refine bodyPost_ret (v := .tuple #[.agg #[.int .u64 0, .int .u64 0], .bool false]) (by simp (maxDischargeDepth := 3) [results, Tryd.results13, go_sem, a0, a1]) rfl ?_; exact ⟨sig_wide rfl rfl rfl, by repeat' (first | (with_reducible assumption) | (with_reducible exact Below.refl _ _) | (with_reducible refine below_drewN ?_ _) | (with_reducible refine Below.drew ?_) | (with_reducible refine Below.setCell ?_ ?_ _) | (with_reducible refine Below.alloc ?_ ?_ _) | omega | (simp; done) | (simp; omega))⟩)
                · have v1 : yh = (v * 10 + ((s[k].toNat : Int) - 48)) / 18446744073709551616 := by have := P6.out; have := HS1.out; have := HS3.out; omega
                  have v2 : yl = (v * 10 + ((s[k].toNat : Int) - 48)) % 18446744073709551616 := by have := P6.out; have := HS2.out; have := HS3.out; omega
                  have v3 : v * 10 + ((s[k].toNat : Int) - 48) ≤ 340282366920938463463374607431768211455 := by have := P6.out; have := HS3.out; omega
                  have V1 := Lib.hid v1
                  have V2 := Lib.hid v2
                  have V3 := Lib.hid v3
                  clear v1 v2 v3 ho
                  go_wp2_with fail
                  go_roundg (s.size - (k + 1))
                  case measure => omega
                  case rel =>
                    refine ⟨k + 1, v * 10 + ((s[k].toNat : Int) - 48), by go_num, by omega, by omega, HAL, HSN, by omega, V3.out, ?_⟩
                    rw [← V1.out, ← V2.out]
                    (repeat' apply And.intro) <;> first | (simp (maxDischargeDepth := 6) [go_sem, a0, a1, a2, a3, b0, b1, b2, b3, nc, nc1]; done) | (simp; omega) | (repeat' (first | (with_reducible assumption) | (with_reducible exact Below.refl _ _) | (with_reducible refine below_drewN ?_ _) | (with_reducible refine Below.drew ?_) | (with_reducible refine Below.setCell ?_ ?_ _) | (with_reducible refine Below.alloc ?_ ?_ _) | omega | (simp; done) | (simp; omega)))
              · have hob : (xo != 0) = true := bne_t ho
                have hno : parseOf s.data.toList = none := parseOf_great (k + 1) (by have := HSN.out; have := P6.out; omega)
                rw [HP.out] at hno
                subst hno
                go_wp2_with fail
                (refine bodyPost_ret (v := .tuple #[.agg #[.int .u64 0, .int .u64 0], .bool false]) (by simp (maxDischargeDepth := 3) [results, Tryd.results13, go_sem, a0, a1]) rfl ?_; exact ⟨sig_wide rfl rfl rfl, by repeat' (first | (with_reducible assumption) | (with_reducible exact Below.refl _ _) | (with_reducible refine below_drewN ?_ _) | (with_reducible refine Below.drew ?_) | (with_reducible refine Below.setCell ?_ ?_ _) | (with_reducible refine Below.alloc ?_ ?_ _) | omega | (simp; done) | (simp; omega))⟩)
      · have hke : k = s.size := by omega
        subst hke
        have hz0 : w.heap.size < wr.heap.size := by omega
        have hso : parseOf s.data.toList = some (decVal s.data.toList) := by
          have hfull : s.data.toList.take s.size = s.data.toList := List.take_of_length_le (by rw [HL.out]; exact Nat.le_refl _)
          have hall := unhide HALL
          have hv := unhide HV
          rw [hfull] at hall hv
          exact parseOf_canon (by rw [HL.out]; exact hp) (by rw [HL.out]; exact hs) hall (by omega) (unhide HCAN)
        have hpv : pV P = v := by
          rw [← HP.out, hso]
          have hfull : s.data.toList.take s.size = s.data.toList := List.take_of_length_le (by rw [HL.out]; exact Nat.le_refl _)
          have hv := unhide HV
          rw [hfull] at hv
          exact hv
        rw [HP.out] at hso
        have HPV := Lib.hid hpv
        have HSO : Hid (P.isSome = true) := hide (by rw [hso]; rfl)
        clear hpv hso
        go_wp2_with fail
        refine bodyPost_ret (v := .tuple #[.agg #[.int .u64 (v / 18446744073709551616), .int .u64 (v % 18446744073709551616)], .bool true]) (by simp (maxDischargeDepth := 3) [results, Tryd.results13, go_sem, c0, c1, d0, d1]) rfl ?_
        exact ⟨sig_wide (by rw [HPV.out]) (by rw [HPV.out]) (unhide HSO).symm, by repeat' (first | (with_reducible assumption) | (with_reducible exact Below.refl _ _) | (with_reducible refine below_drewN ?_ _) | (with_reducible refine Below.drew ?_) | (with_reducible refine Below.setCell ?_ ?_ _) | (with_reducible refine Below.alloc ?_ ?_ _) | omega | (simp; done) | (simp; omega))⟩
end Go.Proofs.YtiagngnpbpblaaaDoor
