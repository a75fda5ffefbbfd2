/- The contract of when.Parse: the time of a text (whenP). Condition: a text of at most 1000 bytes. -/
import Derived.Test.YtoidmnleedkbiaaDoorW14
import Derived.Outline
namespace Go.Proofs.YtoidmnleedkbiaaDoor
open Go.RowKit
set_option linter.unusedSimpArgs false
set_option linter.unusedVariables false

def oV (o : Option Int) : Int := o.getD 0
theorem fldV_ok {n lo hi : Int} (h : fldB n lo hi = true) : fldV n = n ∧ lo ≤ n ∧ n ≤ hi ∧ 0 ≤ n := by
  unfold fldB at h
  simp at h
  refine ⟨?_, by omega, by omega, by omega⟩
  unfold fldV
  rw [if_neg (by omega)]
theorem fldB_no {n lo hi : Int} (h : fldB n lo hi = false) (h0 : 0 ≤ lo) : ¬ (lo ≤ n ∧ n ≤ hi) := by
  rintro ⟨a, b⟩
  unfold fldB at h
  rw [decide_eq_true a, decide_eq_true b, decide_eq_true (show 0 ≤ n by omega)] at h
  cases h
theorem ext_fld (s : ByteArray) (a b : Nat) : numOf (s.extract a b).data.toList = fld s.data.toList a b := by
  unfold fld
  congr 1
  simp
theorem fieldOf_any (s : ByteArray) (hs : s.size ≤ 1000) (a b : Nat) (hab : a ≤ b) (hb : b ≤ s.size) (h4 : b ≤ a + 4) (A B : Int) (hA : A = a) (hB : B = b) (least most : Int) (w : World) :
    Calls Tryd.prog 9 #[.string s, .int .i64 A, .int .i64 B, .int .i64 least, .int .i64 most] w fun e w' =>
      e = .returned (.tuple #[.int .i64 (fldV (fld s.data.toList a b)), .bool (fldB (fld s.data.toList a b) least most)]) ∧ Below w.heap.size w w' := by
  subst hA hB
  rw [← ext_fld]
  exact field_any s (s.extract a b) a b (by omega) (by omega) (by omega) hs rfl (by simp; omega) least most w
end Go.Proofs.YtoidmnleedkbiaaDoor
