/- WideLaws: the walk with what the contracts compute. Condition: the table of powers of 10 is laid. -/
import Derived.Test.YtgkgacmphafieaaDoorWd9
import Derived.Test.YtgkgacmphafieaaDoorWd10
namespace Go.Proofs.YtgkgacmphafieaaDoor
open Go.RowKit
set_option linter.unusedSimpArgs false
set_option linter.unusedVariables false

theorem wV_mod (x : Int) : wV (wHigh x) (wLow x) = x % 340282366920938463463374607431768211456 := by
  unfold wV wHigh wLow; omega
theorem cmp_neg (h l g k : Int) : -(wCmp g k h l) = wCmp h l g k ∧ -1 ≤ wCmp h l g k ∧ wCmp h l g k ≤ 1 := by
  unfold wCmp; (repeat' split) <;> omega
theorem cmp_zero (h l g k : Int) : wCmp h l g k = 0 ↔ h = g ∧ l = k := by
  unfold wCmp; (repeat' split) <;> omega
theorem law_parts (P Q R x : Int) (hx : x = P + Q - 340282366920938463463374607431768211456 * R) :
    wHigh (P % 340282366920938463463374607431768211456 + Q % 340282366920938463463374607431768211456) = wHigh x ∧ wLow (P % 340282366920938463463374607431768211456 + Q % 340282366920938463463374607431768211456) = wLow x := by
  subst hx; unfold wHigh wLow; omega
theorem wideLaws_all (h l g m k : Int) (h0 : 0 ≤ h) (h1 : h ≤ 18446744073709551615) (l0 : 0 ≤ l) (l1 : l ≤ 18446744073709551615) (g0 : 0 ≤ g) (g1 : g ≤ 18446744073709551615) (m0 : 0 ≤ m) (m1 : m ≤ 18446744073709551615) (k0 : 0 ≤ k) (k1 : k ≤ 18446744073709551615) (w : World) (ht : PowTab w) :
    Calls Tryd.prog 12 #[.agg #[.int .u64 h, .int .u64 l], .agg #[.int .u64 g, .int .u64 m], .int .u64 k] w fun e w' => e = .returned (.bool true) ∧ Below w.heap.size w w' := by
  have bH : ∀ x, 0 ≤ wHigh x ∧ wHigh x ≤ 18446744073709551615 := fun x => by unfold wHigh; omega
  have bL : ∀ x, 0 ≤ wLow x ∧ wLow x ≤ 18446744073709551615 := fun x => by unfold wLow; omega
  have AB := fun w => wideAdd_any g m h l g0 g1 m0 m1 h0 h1 l0 l1 w
  rw [Int.add_comm (wV g m)] at AB
  have SU := fun w => wideSub_any (wHigh (wV h l + wV g m)) (wLow (wV h l + wV g m)) g m (bH _).1 (bH _).2 (bL _).1 (bL _).2 g0 g1 m0 m1 w
  rw [wV_mod] at SU
  have e1 : wHigh ((wV h l + wV g m) % 340282366920938463463374607431768211456 - wV g m) = h := by unfold wHigh wV; omega
  have e2 : wLow ((wV h l + wV g m) % 340282366920938463463374607431768211456 - wV g m) = l := by unfold wLow wV; omega
  rw [e1, e2] at SU
  have TS := fun w => wideTimes_any (wHigh (wV h l + wV g m)) (wLow (wV h l + wV g m)) k (bH _).1 (bH _).2 (bL _).1 (bL _).2 k0 k1 w
  rw [wV_mod] at TS
  have AC := fun w => wideAdd_any (wHigh (wV h l * k)) (wLow (wV h l * k)) (wHigh (wV g m * k)) (wLow (wV g m * k)) (bH _).1 (bH _).2 (bL _).1 (bL _).2 (bH _).1 (bH _).2 (bL _).1 (bL _).2 w
  rw [wV_mod, wV_mod] at AC
  have hx : (wV h l + wV g m) % 340282366920938463463374607431768211456 * k = wV h l * k + wV g m * k - 340282366920938463463374607431768211456 * ((wV h l + wV g m) / 340282366920938463463374607431768211456 * k) := by
    rw [Int.emod_def, Int.sub_mul, Int.add_mul, Int.mul_assoc]
  obtain ⟨e3, e4⟩ := law_parts (wV h l * k) (wV g m * k) _ _ hx
  rw [e3, e4] at AC
  obtain ⟨n1, n2, n3⟩ := cmp_neg h l g m
  obtain ⟨n4, n5, n6⟩ := cmp_neg g m h l
  have hz := cmp_zero h l g m
  refine wideLaws_law h l g m k _ _ _ _ _ _ _ _ _ _ _ _ _ _ _ _ _ n2 n3 n5 n6 n1 (IntWalk.i64_in _ (by omega)) ?_ (fun w => wideAdd_any h l g m h0 h1 l0 l1 g0 g1 m0 m1 w) AB SU TS (fun w => wideTimes_any h l k h0 h1 l0 l1 k0 k1 w) (fun w => wideTimes_any g m k g0 g1 m0 m1 k0 k1 w) AC (fun w => wideCmp_any h l g m w) (fun w => wideCmp_any g m h l w) w ht
  by_cases q1 : h = g
  · by_cases q2 : l = m
    · exact Or.inl ⟨beq_t (hz.2 ⟨q1, q2⟩), beq_t q1, beq_t q2⟩
    · exact Or.inr (Or.inr ⟨beq_f (fun h => q2 (hz.1 h).2), beq_t q1, beq_f q2⟩)
  · exact Or.inr (Or.inl ⟨beq_f (fun h => q1 (hz.1 h).1), beq_f q1⟩)
end Go.Proofs.YtgkgacmphafieaaDoor
