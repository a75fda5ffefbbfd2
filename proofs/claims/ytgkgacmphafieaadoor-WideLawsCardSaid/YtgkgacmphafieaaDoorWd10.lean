/- WideTimes, WideSums, WideShifts, WideDivs, WideTexts, WideLaws: the walks with what the contracts compute. Condition: the table of powers of 10 is laid. -/
import Derived.Test.YtgkgacmphafieaaDoorWd8
import Derived.Test.YtgkgacmphafieaaDoorRParse
namespace Go.Proofs.YtgkgacmphafieaaDoor
open Go.RowKit
set_option linter.unusedSimpArgs false
set_option linter.unusedVariables false

theorem prod_bd {a b : Int} (a0 : 0 ≤ a) (a1 : a ≤ 18446744073709551615) (b0 : 0 ≤ b) (b1 : b ≤ 18446744073709551615) : 0 ≤ a * b ∧ a * b ≤ 340282366920938463426481119284349108225 := by
  refine ⟨Int.mul_nonneg a0 b0, ?_⟩
  have := Int.mul_le_mul a1 b1 b0 (by decide)
  simpa using this
theorem wideTimes_all (h l b : Int) (h0 : 0 ≤ h) (h1 : h ≤ 18446744073709551615) (l0 : 0 ≤ l) (l1 : l ≤ 18446744073709551615) (b0 : 0 ≤ b) (b1 : b ≤ 18446744073709551615) (w : World) (ht : PowTab w) :
    Calls Tryd.prog 5 #[.agg #[.int .u64 h, .int .u64 l], .int .u64 b] w fun e w' => e = .returned (.bool true) ∧ Below w.heap.size w w' := by
  obtain ⟨m0, m1⟩ := prod_bd h0 h1 b0 b1
  have e1 : h * b / 18446744073709551616 = wHigh (wV 0 h * b) := by
    rw [show wV 0 h = h by unfold wV; omega]; unfold wHigh; generalize h * b = x at *; omega
  have e2 : h * b % 18446744073709551616 = wLow (wV 0 h * b) := by
    rw [show wV 0 h = h by unfold wV; omega]; rfl
  exact wideTimes_law h l b _ _ _ _ _ _ (fun w => wideTimes_any h l b h0 h1 l0 l1 b0 b1 w) (fun w => refTimes_any h l b h0 h1 l0 l1 b0 b1 w) (fun w => refTimes_any 0 h b (by decide) (by decide) h0 h1 b0 b1 w)
    (fun w => (wideMul_any h b h0 h1 b0 b1 w).mono fun e w' ⟨he, hb⟩ => ⟨by rw [he]; exact ret_ag e1 e2, hb⟩) w ht
theorem wideSums_all (h l g k : Int) (h0 : 0 ≤ h) (h1 : h ≤ 18446744073709551615) (l0 : 0 ≤ l) (l1 : l ≤ 18446744073709551615) (g0 : 0 ≤ g) (g1 : g ≤ 18446744073709551615) (k0 : 0 ≤ k) (k1 : k ≤ 18446744073709551615) (w : World) (ht : PowTab w) :
    Calls Tryd.prog 11 #[.agg #[.int .u64 h, .int .u64 l], .agg #[.int .u64 g, .int .u64 k]] w fun e w' => e = .returned (.bool true) ∧ Below w.heap.size w w' :=
  wideSums_law h l g k _ _ _ _ _ _ _ (fun w => wideAdd_any h l g k h0 h1 l0 l1 g0 g1 k0 k1 w) (fun w => refAdd_any h l g k h0 h1 l0 l1 g0 g1 k0 k1 w) (fun w => wideSub_any h l g k h0 h1 l0 l1 g0 g1 k0 k1 w) (fun w => refSub_any h l g k h0 h1 l0 l1 g0 g1 k0 k1 w)
    (fun w => wideCmp_any h l g k w) (fun w => refWCmp_any h l g k w) (fun w => wideOf_any l w) w ht
theorem wideShifts_all (h l n : Int) (h0 : 0 ≤ h) (h1 : h ≤ 18446744073709551615) (l0 : 0 ≤ l) (l1 : l ≤ 18446744073709551615) (_n0 : -9223372036854775808 ≤ n) (n1 : n ≤ 9223372036854775807) (w : World) (ht : PowTab w) :
    Calls Tryd.prog 10 #[.agg #[.int .u64 h, .int .u64 l], .int .i64 n] w fun e w' => e = .returned (.bool true) ∧ Below w.heap.size w w' := by
  have bu := upV_bd (wV h l) (shN n)
  have bd := dnV_bd (upV (wV h l) (shN n)) (shN n) bu.1
  have DB := fun w => wideDown_any (upV (wV h l) (shN n) / 18446744073709551616) (upV (wV h l) (shN n) % 18446744073709551616) n (by omega) (by omega) (by omega) (by omega) n1 w
  rw [wV_parts] at DB
  have UB := fun w => wideUp_any (dnV (upV (wV h l) (shN n)) (shN n) / 18446744073709551616) (dnV (upV (wV h l) (shN n)) (shN n) % 18446744073709551616) n (by omega) (by omega) (by omega) (by omega) n1 w
  rw [wV_parts, up_back _ _ (by unfold shN; omega)] at UB
  exact wideShifts_law h l n _ _ _ _ _ _ (fun w => wideUp_any h l n h0 h1 l0 l1 n1 w) (fun w => refUp_any h l n h0 h1 l0 l1 n1 w) (fun w => wideDown_any h l n h0 h1 l0 l1 n1 w) (fun w => refDown_any h l n h0 h1 l0 l1 n1 w) DB UB w ht
theorem ret_t0 {a b c d x y : Int} {p q : Bool} (h1 : a = d) (h2 : b = x) (h3 : c = y) : Ending.returned (.tuple #[.agg #[.int .u64 a, .int .u64 b], .int .u64 c]) = .returned (.tuple #[.agg #[.int .u64 d, .int .u64 x], .int .u64 y]) := by rw [h1, h2, h3]
theorem wideDivs_all (h l b : Int) (h0 : 0 ≤ h) (h1 : h ≤ 18446744073709551615) (l0 : 0 ≤ l) (l1 : l ≤ 18446744073709551615) (b0 : 0 ≤ b) (b1 : b ≤ 18446744073709551615) (w : World) (ht : PowTab w) :
    Calls Tryd.prog 6 #[.agg #[.int .u64 h, .int .u64 l], .int .u64 b] w fun e w' => e = .returned (.bool true) ∧ Below w.heap.size w w' := by
  by_cases hb : b = 0
  · subst hb
    exact wideDivs_zero h l (fun w => wideDiv_nought h l w) w ht
  · have hV := wV_bd h l h0 h1 l0 l1
    have r0 := Int.emod_nonneg (wV h l) hb
    have r1 := Int.emod_lt_of_pos (wV h l) (show 0 < b by omega)
    have q0 : 0 ≤ wV h l / b := Int.ediv_nonneg hV.1 b0
    have q1 : wV h l / b ≤ wV h l := Int.ediv_le_self _ hV.1
    have eV := Int.emod_add_mul_ediv (wV h l) b
    rw [Int.mul_comm b] at eV
    have p0 : 0 ≤ wV h l / b * b := Int.mul_nonneg q0 b0
    have TI := fun w => refTimes_any (wV h l / b / 18446744073709551616) (wV h l / b % 18446744073709551616) b (by omega) (by omega) (by omega) (by omega) b0 b1 w
    rw [wV_parts] at TI
    have eo : wOver (wV h l / b * b) = 0 := by unfold wOver; generalize wV h l / b * b = p at *; omega
    rw [eo] at TI
    have RA := fun w => refAdd_any (wHigh (wV h l / b * b)) (wLow (wV h l / b * b)) 0 (wV h l % b) (by unfold wHigh; omega) (by unfold wHigh; omega) (by unfold wLow; omega) (by unfold wLow; omega) (by decide) (by decide) r0 (by omega) w
    have es : wV (wHigh (wV h l / b * b)) (wLow (wV h l / b * b)) + wV 0 (wV h l % b) = wV h l := by
      have e1 : wV (wHigh (wV h l / b * b)) (wLow (wV h l / b * b)) = wV h l / b * b := by
        have hpb : wV h l / b * b < 340282366920938463463374607431768211456 := by omega
        unfold wHigh wLow
        generalize wV h l / b * b = p at *
        clear eV hV r0 r1 q0 q1
        unfold wV
        omega
      have e2 : wV 0 (wV h l % b) = wV h l % b := by
        generalize wV h l % b = r at *
        unfold wV; omega
      rw [e1, e2]; omega
    rw [es, show wHigh (wV h l) = h by unfold wHigh wV; omega, show wLow (wV h l) = l by unfold wLow wV; omega, decide_eq_false (show ¬ 0 < wOver (wV h l) by unfold wOver; omega)] at RA
    exact wideDivs_law h l b _ _ _ _ _ hb r1 (fun w => wideDiv_any h l b h0 h1 l0 l1 (by omega) b1 w) TI RA w ht
theorem wideParse_any (s : ByteArray) (hs : s.size ≤ maxLen) (w : World) :
    Calls Tryd.prog 33 #[.string s] w fun e w' =>
      e = .returned (.tuple #[.agg #[.int .u64 (pV (parseOf s.data.toList) / 18446744073709551616), .int .u64 (pV (parseOf s.data.toList) % 18446744073709551616)], .bool (parseOf s.data.toList).isSome]) ∧ Below w.heap.size w w' := by
  have hlen : s.data.toList.length = s.size := by simp
  by_cases hx : s.size = 0 ∨ 39 < s.size ∨ (1 < s.size ∧ ∀ h : 0 < s.size, (s[0]'h).toNat = 48)
  · have hno : parseOf s.data.toList = none := by
      rcases hx with h | h | ⟨h1, h2⟩
      · rw [List.eq_nil_of_length_eq_zero (hlen.trans h)]; exact parseOf_nil
      · exact parseOf_long (by omega)
      · refine parseOf_nought (by omega) ?_
        rw [head_of s (by omega)]
        congr 1
        exact UInt8.toNat_inj.1 (h2 (by omega))
    rw [hno]
    exact wideParse_none s hs hx w
  · have hp : 0 < s.size := Nat.pos_of_ne_zero fun h => hx (Or.inl h)
    have h39 : s.size ≤ 39 := Nat.le_of_not_lt fun h => hx (Or.inr (Or.inl h))
    refine wideParse_some s h39 hp ?_ w
    by_cases h1 : s.size = 1
    · exact Or.inl h1
    · refine Or.inr fun h2 => ?_
      have h3 : ∀ h : 0 < s.size, (s[0]'h).toNat = 48 := fun _ => h2
      exact hx (Or.inr (Or.inr ⟨Nat.lt_of_le_of_ne hp (Ne.symm h1), h3⟩))
theorem ret_pt {a b c d : Int} {p q : Bool} (h1 : a = c) (h2 : b = d) (h3 : p = q) : Ending.returned (.tuple #[.agg #[.int .u64 a, .int .u64 b], .bool p]) = .returned (.tuple #[.agg #[.int .u64 c, .int .u64 d], .bool q]) := by rw [h1, h2, h3]
theorem wideTexts_all (h l : Int) (s : ByteArray) (hs : s.size ≤ maxLen) (h0 : 0 ≤ h) (h1 : h ≤ 18446744073709551615) (l0 : 0 ≤ l) (l1 : l ≤ 18446744073709551615) (w : World) (ht : PowTab w) :
    Calls Tryd.prog 7 #[.agg #[.int .u64 h, .int .u64 l], .string s] w fun e w' => e = .returned (.bool true) ∧ Below w.heap.size w w' := by
  by_cases hl : 100 < s.size
  · exact wideTexts_long h l s hl w ht
  · have hV := wV_bd h l h0 h1 l0 l1
    have hN : wN h l < 340282366920938463463374607431768211456 := by unfold wN; omega
    have PT : ∀ w, Calls Tryd.prog 33 #[.string ⟨(Lib.decDigits (wN h l)).toArray⟩] w fun e w' => e = .returned (.tuple #[.agg #[.int .u64 h, .int .u64 l], .bool true]) ∧ Below w.heap.size w w' := fun w => by
      have hsz : (⟨(Lib.decDigits (wN h l)).toArray⟩ : ByteArray).size ≤ maxLen := by
        have := dec_len39 _ hN
        show (Lib.decDigits (wN h l)).toArray.size ≤ maxLen
        rw [List.size_toArray]
        unfold maxLen
        omega
      refine (wideParse_any _ hsz w).mono ?_
      rintro e w' ⟨rfl, hb⟩
      refine ⟨?_, hb⟩
      have e2 : (⟨(Lib.decDigits (wN h l)).toArray⟩ : ByteArray).data.toList = Lib.decDigits (wN h l) := rfl
      rw [e2, parseOf_dec _ hN]
      have e3 : pV (some (wN h l)) = wV h l := by show ((wN h l : Nat) : Int) = _; unfold wN; omega
      exact ret_pt (by rw [e3]; unfold wV; omega) (by rw [e3]; unfold wV; omega) rfl
    exact wideTexts_law h l _ _ _ s _ (by omega) (fun w ht => wideText_any h l h0 h1 l0 l1 w ht) PT (fun w => wideParse_any s hs w) (fun w => refParse_any s hs w) (fun w => refText_any h l h0 h1 l0 l1 w) w ht
end Go.Proofs.YtgkgacmphafieaaDoor
