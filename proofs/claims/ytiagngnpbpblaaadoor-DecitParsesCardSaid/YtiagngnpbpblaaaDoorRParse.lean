/- The contract of the reference's Parse: the number whose decimal digits a text is. No condition but a text's own bound. -/
import Derived.Test.YtiagngnpbpblaaaDoorRText
namespace Go.Proofs.YtiagngnpbpblaaaDoor
open Go.RowKit
set_option linter.unusedSimpArgs false
set_option linter.unusedVariables false

/-- The number of decimal digits, one behind the other. -/
def decVal (l : List UInt8) : Nat := l.foldl (fun a c => a * 10 + (c.toNat - 48)) 0
def isDg (c : UInt8) : Bool := decide (48 ≤ c.toNat) && decide (c.toNat ≤ 57)
theorem decVal_snoc (l : List UInt8) (c : UInt8) : decVal (l ++ [c]) = decVal l * 10 + (c.toNat - 48) := by unfold decVal; rw [List.foldl_append]; rfl
theorem foldl_ge (l : List UInt8) : ∀ a : Nat, a ≤ l.foldl (fun a c => a * 10 + (c.toNat - 48)) a := by
  induction l with
  | nil => intro a; exact Nat.le_refl _
  | cons c l ih => intro a; have := ih (a * 10 + (c.toNat - 48)); rw [List.foldl_cons]; omega
theorem decVal_take_le (l : List UInt8) (k : Nat) : decVal (l.take k) ≤ decVal l := by
  have h := foldl_ge (l.drop k) (decVal (l.take k))
  have e : decVal l = (l.drop k).foldl (fun a c => a * 10 + (c.toNat - 48)) (decVal (l.take k)) := by
    unfold decVal; rw [← List.foldl_append, List.take_append_drop]
  rw [e]; exact h
/-- What Parse answers: the number whose text this is, if it is below 2^128. -/
def parseOf (l : List UInt8) : Option Nat := if l.length ≤ 39 ∧ l.all isDg = true ∧ decVal l < 340282366920938463463374607431768211456 ∧ Lib.decDigits (decVal l) = l then some (decVal l) else none
theorem parseOf_long {l : List UInt8} (h : ¬ l.length ≤ 39) : parseOf l = none := by unfold parseOf; rw [if_neg (fun x => h x.1)]
theorem parseOf_sign {l : List UInt8} (k : Nat) (hk : k < l.length) (h : isDg l[k] = false) : parseOf l = none := by
  unfold parseOf
  rw [if_neg]
  intro x
  have := List.all_eq_true.1 x.2.1 l[k] (List.getElem_mem hk)
  rw [h] at this; cases this
theorem parseOf_great {l : List UInt8} (k : Nat) (h : 340282366920938463463374607431768211456 ≤ decVal (l.take k)) : parseOf l = none := by
  unfold parseOf
  rw [if_neg]
  intro x
  have := decVal_take_le l k
  have := x.2.2.1
  omega
theorem parseOf_other {l : List UInt8} (h : ¬ Lib.decDigits (decVal l) = l) : parseOf l = none := by unfold parseOf; rw [if_neg (fun x => h x.2.2.2)]
theorem parseOf_some {l : List UInt8} (h : l.length ≤ 39) (ha : l.all isDg = true) (hv : decVal l < 340282366920938463463374607431768211456) (h2 : Lib.decDigits (decVal l) = l) : parseOf l = some (decVal l) := by
  unfold parseOf; rw [if_pos ⟨h, ha, hv, h2⟩]
theorem take_snoc (s : ByteArray) (k : Nat) (h : k < s.size) : s.data.toList.take (k + 1) = s.data.toList.take k ++ [s[k]] := by
  rw [List.take_succ_eq_append_getElem (by simpa using h)]; rfl
theorem sig_wide {a b : Int} {p q : Bool} {c d : Int} (h1 : a = c) (h2 : b = d) (h3 : p = q) :
    Ending.returned (.tuple #[.agg #[.int .u64 a, .int .u64 b], .bool p]) = .returned (.tuple #[.agg #[.int .u64 c, .int .u64 d], .bool q]) := by rw [h1, h2, h3]

def pV (o : Option Nat) : Int := ((o.getD 0 : Nat) : Int)

theorem bs_ne {a b : ByteArray} (h : a ≠ b) : (a == b) = false := by
  show (a.data == b.data) = false
  rw [beq_eq_false_iff_ne]
  intro e
  exact h (ByteArray.ext e)
theorem bfacts {W w' : World} (hb : Below W.heap.size W w') : (∀ b o, b < W.heap.size → w'.cell? ⟨b, o, none⟩ = W.cell? ⟨b, o, none⟩) ∧ (∀ b o, b < W.heap.size → w'.frozen? ⟨b, o, none⟩ = W.frozen? ⟨b, o, none⟩) ∧ W.heap.size ≤ w'.heap.size :=
  ⟨fun b o h => hb.cell (p := ⟨b, o, none⟩) h, fun b o h => hb.frozen (p := ⟨b, o, none⟩) h, hb.size⟩

set_option maxRecDepth 100000 in
set_option maxHeartbeats 1600000 in
theorem refParse_any (s : ByteArray) (hs : s.size ≤ maxLen) (w : World) :
    Calls Tryd.prog 15 #[.string s] w fun e w' =>
      e = .returned (.tuple #[.agg #[.int .u64 (pV (parseOf s.data.toList) / 18446744073709551616), .int .u64 (pV (parseOf s.data.toList) % 18446744073709551616)], .bool (parseOf s.data.toList).isSome]) ∧ Below w.heap.size w w' := by
  unfold maxLen at hs
  have hlen : s.data.toList.length = s.size := by simp
  by_cases hl : s.size ≤ 39
  · obtain ⟨P, hP⟩ : ∃ P, parseOf s.data.toList = P := ⟨_, rfl⟩
    rw [hP]
    have HP := Lib.hid hP
    have HL := Lib.hid hlen
    clear hP hlen
    go_enter Tryd.func15, Tryd.ntmps15
    go_wp2_with fail
    go_loopg [5] s.size (fun g i wr => ∃ k v : Nat, i = .int .i64 k ∧ k ≤ s.size ∧ s.size - k ≤ g ∧ (s.data.toList.take k).all isDg = true ∧ decVal (s.data.toList.take k) = v ∧ v < 340282366920938463463374607431768211456 ∧
        wr.cell? ⟨w.heap.size, 0, none⟩ = some (.int .u64 0) ∧ wr.cell? ⟨w.heap.size, 1, none⟩ = some (.int .u64 0) ∧ wr.frozen? ⟨w.heap.size, 0, none⟩ = false ∧ wr.frozen? ⟨w.heap.size, 1, none⟩ = false ∧
        wr.cell? ⟨w.heap.size + 1, 0, none⟩ = some (.int .u64 ((v : Int) / 18446744073709551616)) ∧ wr.cell? ⟨w.heap.size + 1, 1, none⟩ = some (.int .u64 ((v : Int) % 18446744073709551616)) ∧ wr.frozen? ⟨w.heap.size + 1, 0, none⟩ = false ∧ wr.frozen? ⟨w.heap.size + 1, 1, none⟩ = false ∧
        w.heap.size + 1 < wr.heap.size ∧ Below w.heap.size w wr)
    case atStart =>
      refine ⟨0, 0, rfl, Nat.zero_le _, by omega, rfl, rfl, by omega, ?_⟩
      (repeat' apply And.intro) <;> first | (simp (maxDischargeDepth := 6) [go_sem]; done) | (simp; omega) | (repeat' (first | (with_reducible assumption) | (with_reducible exact Below.refl _ _) | (with_reducible refine below_drewN ?_ _) | (with_reducible refine Below.drew ?_) | (with_reducible refine Below.setCell ?_ ?_ _) | (with_reducible refine Below.alloc ?_ ?_ _) | omega | (simp; done) | (simp; omega)))
    case round =>
      obtain ⟨k, v, rfl, hk, hgm, hall, hv, hv1, c0, c1, f0, f1, d0, d1, g0, g1, hz, hbw⟩ := hrel
      have HALL := Lib.hid hall
      have HV := Lib.hid hv
      clear hall hv
      by_cases hlt : k < s.size
      · have hsn := decVal_snoc (s.data.toList.take k) s[k]
        rw [← take_snoc s k hlt, HV.out] at hsn
        have hbyte : s[k].toNat < 256 := UInt8.toNat_lt _
        have hin : k < s.data.toList.length := by rw [HL.out]; exact hlt
        have hgk : s.data.toList[k] = s[k] := rfl
        have hal : (s.data.toList.take (k + 1)).all isDg = ((s.data.toList.take k).all isDg && isDg s[k]) := by rw [take_snoc s k hlt, List.all_append]; simp
        by_cases hd1 : s[k].toNat < 48
        · have hno : parseOf s.data.toList = none := parseOf_sign k hin (by rw [hgk]; unfold isDg; simp; omega)
          rw [HP.out] at hno
          subst hno
          clear hsn hal hgk
          go_wp2_with fail
          refine bodyPost_ret (v := .tuple #[.agg #[.int .u64 0, .int .u64 0], .bool false]) (by simp (maxDischargeDepth := 3) [results, Tryd.results15, go_sem, c0, c1]) rfl ?_
          exact ⟨sig_wide rfl rfl rfl, by repeat' (first | (with_reducible assumption) | (with_reducible exact Below.refl _ _) | (with_reducible refine below_drewN ?_ _) | (with_reducible refine Below.drew ?_) | (with_reducible refine Below.setCell ?_ ?_ _) | (with_reducible refine Below.alloc ?_ ?_ _) | omega | (simp; done) | (simp; omega))⟩
        · by_cases hd2 : 57 < s[k].toNat
          · have hno : parseOf s.data.toList = none := parseOf_sign k hin (by rw [hgk]; unfold isDg; simp; omega)
            rw [HP.out] at hno
            subst hno
            clear hsn hal hgk
            go_wp2_with fail
            refine bodyPost_ret (v := .tuple #[.agg #[.int .u64 0, .int .u64 0], .bool false]) (by simp (maxDischargeDepth := 3) [results, Tryd.results15, go_sem, c0, c1]) rfl ?_
            exact ⟨sig_wide rfl rfl rfl, by repeat' (first | (with_reducible assumption) | (with_reducible exact Below.refl _ _) | (with_reducible refine below_drewN ?_ _) | (with_reducible refine Below.drew ?_) | (with_reducible refine Below.setCell ?_ ?_ _) | (with_reducible refine Below.alloc ?_ ?_ _) | omega | (simp; done) | (simp; omega))⟩
          · have hdg : isDg s[k] = true := by unfold isDg; simp; omega
            rw [HALL.out, hdg] at hal
            have HSN := Lib.hid hsn
            have HAL := Lib.hid hal
            clear hsn hal hgk hdg
            have hsub : IntKind.u8.wrap ((s[k].toNat : Int) - 48) = (s[k].toNat : Int) - 48 := IntWalk.u8_in _ (by omega)
            have hsub2 : IntKind.u64.wrap ((s[k].toNat : Int) - 48) = (s[k].toNat : Int) - 48 := IntWalk.u64_in _ (by omega)
            have tm := fun w => refTimes_any ((v : Int) / 18446744073709551616) ((v : Int) % 18446744073709551616) 10 (by omega) (by omega) (by omega) (by omega) (by omega) (by omega) w
            have vV : wV ((v : Int) / 18446744073709551616) ((v : Int) % 18446744073709551616) = v := by unfold wV; omega
            rw [vV] at tm
            have p1 : 0 ≤ wHigh ((v : Int) * 10) := by unfold wHigh; omega
            have p2 : wHigh ((v : Int) * 10) ≤ 18446744073709551615 := by unfold wHigh; omega
            have p3 : 0 ≤ wLow ((v : Int) * 10) := by unfold wLow; omega
            have p4 : wLow ((v : Int) * 10) ≤ 18446744073709551615 := by unfold wLow; omega
            have p5 : 0 ≤ wOver ((v : Int) * 10) := by unfold wOver; omega
            have p6 : wLow ((v : Int) * 10) + wHigh ((v : Int) * 10) * 18446744073709551616 + wOver ((v : Int) * 10) * 340282366920938463463374607431768211456 = (v : Int) * 10 := by unfold wLow wHigh wOver; omega
            generalize wHigh ((v : Int) * 10) = xh at *
            generalize wLow ((v : Int) * 10) = xl at *
            generalize wOver ((v : Int) * 10) = xo at *
            have ad := fun w => refAdd_any xh xl 0 ((s[k].toNat : Int) - 48) p1 p2 p3 p4 (by omega) (by omega) (by omega) (by omega) w
            have hS : wV xh xl + wV 0 ((s[k].toNat : Int) - 48) = xl + xh * 18446744073709551616 + ((s[k].toNat : Int) - 48) := by unfold wV; omega
            have hS1 : wHigh (wV xh xl + wV 0 ((s[k].toNat : Int) - 48)) = (xl + xh * 18446744073709551616 + ((s[k].toNat : Int) - 48)) / 18446744073709551616 % 18446744073709551616 := by rw [hS]; rfl
            have hS2 : wLow (wV xh xl + wV 0 ((s[k].toNat : Int) - 48)) = (xl + xh * 18446744073709551616 + ((s[k].toNat : Int) - 48)) % 18446744073709551616 := by rw [hS]; rfl
            have hS3 : wOver (wV xh xl + wV 0 ((s[k].toNat : Int) - 48)) = (xl + xh * 18446744073709551616 + ((s[k].toNat : Int) - 48)) / 340282366920938463463374607431768211456 := by rw [hS]; rfl
            generalize wHigh (wV xh xl + wV 0 ((s[k].toNat : Int) - 48)) = yh at *
            generalize wLow (wV xh xl + wV 0 ((s[k].toNat : Int) - 48)) = yl at *
            generalize wOver (wV xh xl + wV 0 ((s[k].toNat : Int) - 48)) = yo at *
            have HS1 := Lib.hid hS1
            have HS2 := Lib.hid hS2
            have HS3 := Lib.hid hS3
            have P6 := Lib.hid p6
            have TM := Lib.hid tm
            have hz0 : w.heap.size < wr.heap.size := by omega
            clear vV hS hS1 hS2 hS3 p6 tm
            have AD := Lib.hid ad
            clear ad
            go_wp2_with fail
            refine (TM.out _).mono ?_
            rintro e w2 ⟨rfl, hb⟩
            have a0 := (hb.cell (p := ⟨w.heap.size, 0, none⟩) hz0).trans c0
            have a1 := (hb.cell (p := ⟨w.heap.size, 1, none⟩) hz0).trans c1
            have a2 := (hb.frozen (p := ⟨w.heap.size, 0, none⟩) hz0).trans f0
            have a3 := (hb.frozen (p := ⟨w.heap.size, 1, none⟩) hz0).trans f1
            have b0 := (hb.cell (p := ⟨w.heap.size + 1, 0, none⟩) hz).trans d0
            have b1 := (hb.cell (p := ⟨w.heap.size + 1, 1, none⟩) hz).trans d1
            have b2 := (hb.frozen (p := ⟨w.heap.size + 1, 0, none⟩) hz).trans g0
            have b3 := (hb.frozen (p := ⟨w.heap.size + 1, 1, none⟩) hz).trans g1
            have hz2 := hb.size
            have z0 : w.heap.size + 1 < w2.heap.size := by omega
            have z1 : w.heap.size < w2.heap.size := by omega
            have z2 : w.heap.size < w2.heap.size + 1 := by omega
            have z3 : w.heap.size + 1 < w2.heap.size + 1 := by omega
            have z4 : w.heap.size < w2.heap.size + 1 + 1 := by omega
            have z5 : w.heap.size + 1 < w2.heap.size + 1 + 1 := by omega
            have z6 : w2.heap.size < w2.heap.size + 1 := by omega
            have z7 : w2.heap.size < w2.heap.size + 1 + 1 := by omega
            have z8 : w2.heap.size + 1 < w2.heap.size + 1 + 1 := by omega
            have hb2 := hbw.trans (hb.mono (by omega))
            clear hb c0 c1 f0 f1 d0 d1 g0 g1 hbw
            go_upto_region 10 with fail
            go_cut [8, 9] (fun s8 s9 W => ∃ c : Nat, s8 = .pointer (some ⟨c, 0, none⟩) ∧ s9 = .bool (decide (0 < yo)) ∧ W.cell? ⟨c, 0, none⟩ = some (.int .u64 yh) ∧ W.cell? ⟨c, 1, none⟩ = some (.int .u64 yl) ∧ W.cell? ⟨w.heap.size, 0, none⟩ = some (.int .u64 0) ∧ W.cell? ⟨w.heap.size, 1, none⟩ = some (.int .u64 0) ∧ W.frozen? ⟨w.heap.size, 0, none⟩ = false ∧ W.frozen? ⟨w.heap.size, 1, none⟩ = false ∧ W.cell? ⟨w.heap.size + 1, 0, none⟩ = some (.int .u64 ((v : Int) / 18446744073709551616)) ∧ W.cell? ⟨w.heap.size + 1, 1, none⟩ = some (.int .u64 ((v : Int) % 18446744073709551616)) ∧ W.frozen? ⟨w.heap.size + 1, 0, none⟩ = false ∧ W.frozen? ⟨w.heap.size + 1, 1, none⟩ = false ∧ w.heap.size + 1 < W.heap.size ∧ c ≠ w.heap.size ∧ c ≠ w.heap.size + 1 ∧ Below w.heap.size w W)
            case first =>
              go_region_with (go_at_call 44; (with_reducible refine (AD.out _).mono ?_); rintro e w3 ⟨rfl, hb⟩; obtain ⟨hc3, hf3, hs3⟩ := bfacts hb; simp only [World.size_alloc, World.size_drew] at hc3 hf3 hs3)
              all_goals
                have y0 : w.heap.size < w3.heap.size := by omega
                have y1 : w.heap.size + 1 < w3.heap.size := by omega
                have y2 : w.heap.size < w3.heap.size + 1 := by omega
                have y3 : w.heap.size + 1 < w3.heap.size + 1 := by omega
                have hb3 : Below w.heap.size w w3 := by refine Below.trans ?_ (hb.mono ?_); (repeat' (first | (with_reducible assumption) | (with_reducible exact Below.refl _ _) | (with_reducible refine below_drewN ?_ _) | (with_reducible refine Below.drew ?_) | (with_reducible refine Below.setCell ?_ ?_ _) | (with_reducible refine Below.alloc ?_ ?_ _) | omega | (simp; done) | (simp; omega)))
                go_wp2_with fail
                go_meet
                refine ⟨_, rfl, rfl, ?_⟩
                (repeat' apply And.intro) <;> first | (simp (maxDischargeDepth := 6) [go_sem, hc3, hf3, a0, a1, a2, a3, b0, b1, b2, b3, z1, z2, z3, z4, z5, z6, z7, z8, y0, y1, y2, y3]; done) | (simp (disch := (first | assumption | omega | (simp; omega))) [World.cell?_alloc_past, World.frozen?_alloc_past, World.cell?_setCell_far, World.frozen?_setCell, hc3, hf3, a0, a1, a2, a3, b0, b1, b2, b3]; done) | (simp; omega) | (repeat' (first | (with_reducible assumption) | (with_reducible exact Below.refl _ _) | (with_reducible refine below_drewN ?_ _) | (with_reducible refine Below.drew ?_) | (with_reducible refine Below.setCell ?_ ?_ _) | (with_reducible refine Below.alloc ?_ ?_ _) | omega | (simp; done) | (simp; omega)))
            case rest =>
              obtain ⟨c, rfl, rfl, e0, e1, a0, a1, a2, a3, b0, b1, b2, b3, z0, nc, nc1, hb2⟩ := hcut
              by_cases ho : 0 < xo
              · have hno : parseOf s.data.toList = none := parseOf_great (k + 1) (by rw [HSN.out]; have := P6.out; omega)
                rw [HP.out] at hno
                subst hno
                go_wp2_with fail
                (refine bodyPost_ret (v := .tuple #[.agg #[.int .u64 0, .int .u64 0], .bool false]) (by simp (maxDischargeDepth := 3) [results, Tryd.results15, go_sem, a0, a1]) rfl ?_; exact ⟨sig_wide rfl rfl rfl, by repeat' (first | (with_reducible assumption) | (with_reducible exact Below.refl _ _) | (with_reducible refine below_drewN ?_ _) | (with_reducible refine Below.drew ?_) | (with_reducible refine Below.setCell ?_ ?_ _) | (with_reducible refine Below.alloc ?_ ?_ _) | omega | (simp; done) | (simp; omega))⟩)
              · by_cases ho2 : 0 < yo
                · have hno : parseOf s.data.toList = none := parseOf_great (k + 1) (by rw [HSN.out]; have := P6.out; have := HS3.out; omega)
                  rw [HP.out] at hno
                  subst hno
                  go_wp2_with fail
                  (refine bodyPost_ret (v := .tuple #[.agg #[.int .u64 0, .int .u64 0], .bool false]) (by simp (maxDischargeDepth := 3) [results, Tryd.results15, go_sem, a0, a1]) rfl ?_; exact ⟨sig_wide rfl rfl rfl, by repeat' (first | (with_reducible assumption) | (with_reducible exact Below.refl _ _) | (with_reducible refine below_drewN ?_ _) | (with_reducible refine Below.drew ?_) | (with_reducible refine Below.setCell ?_ ?_ _) | (with_reducible refine Below.alloc ?_ ?_ _) | omega | (simp; done) | (simp; omega))⟩)
                · have hxo : xo = 0 := by omega
                  have v1 : yh = ((v * 10 + (s[k].toNat - 48) : Nat) : Int) / 18446744073709551616 := by have := P6.out; have := HS1.out; have := HS3.out; omega
                  have v2 : yl = ((v * 10 + (s[k].toNat - 48) : Nat) : Int) % 18446744073709551616 := by have := P6.out; have := HS2.out; have := HS3.out; omega
                  have v3 : v * 10 + (s[k].toNat - 48) < 340282366920938463463374607431768211456 := by have := P6.out; have := HS3.out; omega
                  have V1 := Lib.hid v1
                  have V2 := Lib.hid v2
                  have V3 := Lib.hid v3
                  clear v1 v2 v3 hxo
                  go_wp2_with fail
                  go_roundg (s.size - (k + 1))
                  case measure => omega
                  case rel =>
                    refine ⟨k + 1, v * 10 + (s[k].toNat - 48), by go_num, by omega, by omega, HAL.out, HSN.out, V3.out, ?_⟩
                    rw [← V1.out, ← V2.out]
                    (repeat' apply And.intro) <;> first | (simp (maxDischargeDepth := 6) [go_sem, a0, a1, a2, a3, b0, b1, b2, b3, nc, nc1]; done) | (simp; omega) | (repeat' (first | (with_reducible assumption) | (with_reducible exact Below.refl _ _) | (with_reducible refine below_drewN ?_ _) | (with_reducible refine Below.drew ?_) | (with_reducible refine Below.setCell ?_ ?_ _) | (with_reducible refine Below.alloc ?_ ?_ _) | omega | (simp; done) | (simp; omega)))
      · have hke : k = s.size := by omega
        subst hke
        have hz0 : w.heap.size < wr.heap.size := by omega
        have hfull : s.data.toList.take s.size = s.data.toList := List.take_of_length_le (by rw [HL.out]; exact Nat.le_refl _)
        have hall := HALL.out
        have hv := HV.out
        rw [hfull] at hall hv
        have tx := fun w => refText_any ((v : Int) / 18446744073709551616) ((v : Int) % 18446744073709551616) (by omega) (by omega) (by omega) (by omega) w
        have vV : wN ((v : Int) / 18446744073709551616) ((v : Int) % 18446744073709551616) = v := by unfold wN wV; omega
        rw [vV] at tx
        by_cases he : Lib.decDigits v = s.data.toList
        · have hso : parseOf s.data.toList = some v := by
            have := parseOf_some (l := s.data.toList) (by rw [HL.out]; exact hl) hall (by rw [hv]; exact hv1) (by rw [hv]; exact he)
            rw [this, hv]
          rw [HP.out] at hso
          subst hso
          have hst : (⟨(Lib.decDigits v).toArray⟩ : ByteArray) = s := by rw [he]
          rw [hst] at tx
          have TX := Lib.hid tx
          clear tx vV he hst hall hv hfull
          go_wp2_with fail
          refine (TX.out _).mono ?_
          rintro e w2 ⟨rfl, hb⟩
          have a0 := (hb.cell (p := ⟨w.heap.size, 0, none⟩) hz0).trans c0
          have a1 := (hb.cell (p := ⟨w.heap.size, 1, none⟩) hz0).trans c1
          have a2 := (hb.frozen (p := ⟨w.heap.size, 0, none⟩) hz0).trans f0
          have a3 := (hb.frozen (p := ⟨w.heap.size, 1, none⟩) hz0).trans f1
          have b0 := (hb.cell (p := ⟨w.heap.size + 1, 0, none⟩) hz).trans d0
          have b1 := (hb.cell (p := ⟨w.heap.size + 1, 1, none⟩) hz).trans d1
          have b2 := (hb.frozen (p := ⟨w.heap.size + 1, 0, none⟩) hz).trans g0
          have b3 := (hb.frozen (p := ⟨w.heap.size + 1, 1, none⟩) hz).trans g1
          have hz2 := hb.size
          have z0 : w.heap.size + 1 < w2.heap.size := by omega
          have z1 : w.heap.size < w2.heap.size := by omega
          have z2 : w.heap.size < w2.heap.size + 1 := by omega
          have z3 : w.heap.size + 1 < w2.heap.size + 1 := by omega
          have z4 : w.heap.size < w2.heap.size + 1 + 1 := by omega
          have z5 : w.heap.size + 1 < w2.heap.size + 1 + 1 := by omega
          have z6 : w2.heap.size < w2.heap.size + 1 := by omega
          have z7 : w2.heap.size < w2.heap.size + 1 + 1 := by omega
          have z8 : w2.heap.size + 1 < w2.heap.size + 1 + 1 := by omega
          have hb2 := hbw.trans (hb.mono (by omega))
          clear hb c0 c1 f0 f1 d0 d1 g0 g1 hbw
          go_wp2_with fail
          refine bodyPost_ret (v := .tuple #[.agg #[.int .u64 ((v : Int) / 18446744073709551616), .int .u64 ((v : Int) % 18446744073709551616)], .bool true]) (by simp (maxDischargeDepth := 3) [results, Tryd.results15, go_sem, a0, a1, b0, b1]) rfl ?_
          exact ⟨sig_wide rfl rfl rfl, by repeat' (first | (with_reducible assumption) | (with_reducible exact Below.refl _ _) | (with_reducible refine below_drewN ?_ _) | (with_reducible refine Below.drew ?_) | (with_reducible refine Below.setCell ?_ ?_ _) | (with_reducible refine Below.alloc ?_ ?_ _) | omega | (simp; done) | (simp; omega))⟩
        · have hno : parseOf s.data.toList = none := parseOf_other (by rw [hv]; exact he)
          rw [HP.out] at hno
          subst hno
          have hne : ((⟨(Lib.decDigits v).toArray⟩ : ByteArray) == s) = false := by
            exact bs_ne (fun h => he (by rw [← h]))
          have hne2 : (Lib.decDigits v == s.toList) = false := by
            rw [ByteArray.toList_eq, beq_eq_false_iff_ne]; exact he
          have TX := Lib.hid tx
          clear tx vV he hall hv hfull
          go_wp2_with fail
          refine (TX.out _).mono ?_
          rintro e w2 ⟨rfl, hb⟩
          have a0 := (hb.cell (p := ⟨w.heap.size, 0, none⟩) hz0).trans c0
          have a1 := (hb.cell (p := ⟨w.heap.size, 1, none⟩) hz0).trans c1
          have a2 := (hb.frozen (p := ⟨w.heap.size, 0, none⟩) hz0).trans f0
          have a3 := (hb.frozen (p := ⟨w.heap.size, 1, none⟩) hz0).trans f1
          have b0 := (hb.cell (p := ⟨w.heap.size + 1, 0, none⟩) hz).trans d0
          have b1 := (hb.cell (p := ⟨w.heap.size + 1, 1, none⟩) hz).trans d1
          have b2 := (hb.frozen (p := ⟨w.heap.size + 1, 0, none⟩) hz).trans g0
          have b3 := (hb.frozen (p := ⟨w.heap.size + 1, 1, none⟩) hz).trans g1
          have hz2 := hb.size
          have z0 : w.heap.size + 1 < w2.heap.size := by omega
          have z1 : w.heap.size < w2.heap.size := by omega
          have z2 : w.heap.size < w2.heap.size + 1 := by omega
          have z3 : w.heap.size + 1 < w2.heap.size + 1 := by omega
          have z4 : w.heap.size < w2.heap.size + 1 + 1 := by omega
          have z5 : w.heap.size + 1 < w2.heap.size + 1 + 1 := by omega
          have z6 : w2.heap.size < w2.heap.size + 1 := by omega
          have z7 : w2.heap.size < w2.heap.size + 1 + 1 := by omega
          have z8 : w2.heap.size + 1 < w2.heap.size + 1 + 1 := by omega
          have hb2 := hbw.trans (hb.mono (by omega))
          clear hb c0 c1 f0 f1 d0 d1 g0 g1 hbw
          go_wp2_with fail
          refine bodyPost_ret (v := .tuple #[.agg #[.int .u64 0, .int .u64 0], .bool false]) (by simp (maxDischargeDepth := 3) [results, Tryd.results15, go_sem, a0, a1]) rfl ?_
          exact ⟨sig_wide rfl rfl rfl, by repeat' (first | (with_reducible assumption) | (with_reducible exact Below.refl _ _) | (with_reducible refine below_drewN ?_ _) | (with_reducible refine Below.drew ?_) | (with_reducible refine Below.setCell ?_ ?_ _) | (with_reducible refine Below.alloc ?_ ?_ _) | omega | (simp; done) | (simp; omega))⟩
  · have hno : parseOf s.data.toList = none := parseOf_long (by rw [hlen]; exact hl)
    rw [hno]
    clear hno hlen
    go_enter Tryd.func15, Tryd.ntmps15
    go_wp2_with fail
    go_returns
    exact ⟨sig_wide rfl rfl rfl, by repeat' (first | (with_reducible assumption) | (with_reducible exact Below.refl _ _) | (with_reducible refine below_drewN ?_ _) | (with_reducible refine Below.drew ?_) | (with_reducible refine Below.setCell ?_ ?_ _) | (with_reducible refine Below.alloc ?_ ?_ _) | omega | (simp; done) | (simp; omega))⟩
end Go.Proofs.YtiagngnpbpblaaaDoor
