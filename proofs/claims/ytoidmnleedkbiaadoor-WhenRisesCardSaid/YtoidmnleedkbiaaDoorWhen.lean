/- Plain laws of times as texts: the text of a time, the time of a text, there and back. No program. -/
import Derived.Test.YtoidmnleedkbiaaDoorCal
import Derived.Test.YtoidmnleedkbiaaDoorPin
namespace Go.Proofs.YtoidmnleedkbiaaDoor
open Go.Lib
set_option linter.unusedSimpArgs false
set_option linter.unusedVariables false

def cdg (x : Nat) : UInt8 := UInt8.ofNat (48 + x % 10)
theorem cdg_val (x : Nat) : (cdg x).toNat - 48 = x % 10 := by unfold cdg; rw [UInt8.toNat_ofNat']; omega
def whenTxt (y m d h i s f : Nat) : List UInt8 :=
  padK 4 y ++ (45 :: (padK 2 m ++ (45 :: (padK 2 d ++ (84 :: (padK 2 h ++ (58 :: (padK 2 i ++ (58 :: (padK 2 s ++ (if f = 0 then [90] else 46 :: (padK 3 f ++ [90]))))))))))))
/-- The number of the digits from a place to another; -1: they are none. -/
def numOf (l : List UInt8) : Int := if l.all isD = true then (dval 0 l : Int) else -1
def fld (l : List UInt8) (a b : Nat) : Int := numOf ((l.drop a).take (b - a))
def whenOk (y m d h i s f : Int) : Prop := 1970 ≤ y ∧ 1 ≤ m ∧ m ≤ 12 ∧ 1 ≤ d ∧ d ≤ mlen y m ∧ 0 ≤ h ∧ h ≤ 23 ∧ 0 ≤ i ∧ i ≤ 59 ∧ 0 ≤ s ∧ s ≤ 59 ∧ 0 ≤ f
instance (y m d h i s f : Int) : Decidable (whenOk y m d h i s f) := by unfold whenOk; infer_instance
def whenShape (l : List UInt8) : Prop := ((l.length = 24 ∧ l[19]? = some 46 ∧ l[23]? = some 90) ∨ (l.length = 20 ∧ l[19]? = some 90)) ∧ l[4]? = some 45 ∧ l[7]? = some 45 ∧ l[10]? = some 84 ∧ l[13]? = some 58 ∧ l[16]? = some 58
instance (l : List UInt8) : Decidable (whenShape l) := by unfold whenShape; infer_instance
def whenVal (y m d h i s f : Int) : Int := ((((ahd y + cumd y m + (d - 1)) * 24 + h) * 60 + i) * 60 + s) * 1000 + f
def whenP (l : List UInt8) : Option Int :=
  if whenShape l ∧ whenOk (fld l 0 4) (fld l 5 7) (fld l 8 10) (fld l 11 13) (fld l 14 16) (fld l 17 19) (if l.length = 24 then fld l 20 23 else 0)
  then some (whenVal (fld l 0 4) (fld l 5 7) (fld l 8 10) (fld l 11 13) (fld l 14 16) (fld l 17 19) (if l.length = 24 then fld l 20 23 else 0)) else none
end Go.Proofs.YtoidmnleedkbiaaDoor
