/- Plain laws of JSON's numbers as texts: runs of digits, a text's sort. No program. -/
import Derived.Lib.ItoaNum
namespace Go.Proofs.YtpgooajifehbbaaDoor
open Go.Lib
set_option linter.unusedSimpArgs false
set_option linter.unusedVariables false

def isD (c : UInt8) : Bool := decide (48 ≤ c.toNat) && decide (c.toNat ≤ 57)
def runL : List UInt8 → Nat
  | [] => 0
  | c :: l => if isD c then runL l + 1 else 0
/-- Does the text begin with one of two signs? -/
def hdIs : List UInt8 → Int → Int → Bool
  | [], _, _ => false
  | x :: _, c, d => (x.toNat : Int) == c || (x.toNat : Int) == d
def lexEnd (kind : Int) (l : List UInt8) : Int := if l = [] then kind else 0
def lexDig (kind : Int) (l : List UInt8) (k : List UInt8 → Int) : Int := if runL l = 0 then 0 else k (l.drop (runL l))
def lexExp (kind : Int) (l : List UInt8) : Int :=
  if hdIs l 101 69 then (if hdIs l.tail 43 45 then lexDig 2 l.tail.tail (lexEnd 2) else lexDig 2 l.tail (lexEnd 2)) else lexEnd kind l
def lexFrac (l : List UInt8) : Int := if hdIs l 46 46 then lexDig 2 l.tail (lexExp 2) else lexExp 1 l
def lexInt (l : List UInt8) : Int := if runL l = 0 ∨ (hdIs l 48 48 = true ∧ 1 < runL l) then 0 else lexFrac (l.drop (runL l))
def lexOf (l : List UInt8) : Int := if hdIs l 45 45 then lexInt l.tail else lexInt l

theorem runL_le : ∀ l, runL l ≤ l.length
  | [] => Nat.le_refl _
  | c :: l => by
    unfold runL
    have := runL_le l
    split <;> simp <;> omega
theorem runL_nil : runL [] = 0 := rfl
theorem runL_drop_zero {l : List UInt8} (h : hdIs l 0 0 = false) : True := trivial
/-- Behind a run there stands no digit. -/
theorem run_step {l : List UInt8} {i : Nat} (h : i < l.length) (hd : isD l[i] = true) : runL (l.drop i) = runL (l.drop (i + 1)) + 1 := by
  rw [List.drop_eq_getElem_cons h]
  show (if isD l[i] then runL (l.drop (i + 1)) + 1 else 0) = _
  rw [if_pos hd]
theorem run_stop {l : List UInt8} {i : Nat} (h : i < l.length) (hd : isD l[i] = false) : runL (l.drop i) = 0 := by
  rw [List.drop_eq_getElem_cons h]
  show (if isD l[i] then runL (l.drop (i + 1)) + 1 else 0) = _
  rw [if_neg (by rw [hd]; decide)]
theorem run_end {l : List UInt8} {i : Nat} (h : l.length ≤ i) : runL (l.drop i) = 0 := by
  rw [List.drop_eq_nil_of_le h]; rfl
theorem hdIs_at {l : List UInt8} {i : Nat} (h : i < l.length) (c d : Int) : hdIs (l.drop i) c d = ((l[i].toNat : Int) == c || (l[i].toNat : Int) == d) := by
  rw [List.drop_eq_getElem_cons h]; rfl
theorem hdIs_end {l : List UInt8} {i : Nat} (h : l.length ≤ i) (c d : Int) : hdIs (l.drop i) c d = false := by
  rw [List.drop_eq_nil_of_le h]; rfl
/-- A run of digits ahead of whatever begins with none. -/
theorem runL_append (m l : List UInt8) (hm : m.all isD = true) : runL (m ++ l) = m.length + runL l := by
  induction m with
  | nil => simp
  | cons c m ih =>
    simp only [List.all_cons, Bool.and_eq_true] at hm
    show (if isD c then runL (m ++ l) + 1 else 0) = _
    rw [if_pos hm.1, ih hm.2, List.length_cons]
    omega
theorem runL_all (m : List UInt8) (hm : m.all isD = true) : runL m = m.length := by
  have := runL_append m [] hm
  rw [List.append_nil] at this
  rw [this]; rfl
end Go.Proofs.YtpgooajifehbbaaDoor
