/-
  NARROWER THAN 'FOR EVERY INPUT', by the rows' own cells (each row's printed sentence says how): BigMuls: laid · BigTexts: laid · BigSums: laid · BigLaws: laid · BigShifts: laid · BigDivs: laid.
  DERIVED. THE GIVEN ROWS OF THIS SEAT. 6 by the template 'for every input the law returns true; each argument reads behind the call as it read before'; 0 by the template 'total and deterministic' (their statements: YthlpimdpgmknoaaDoorTotals.lean).
  GIVEN WITH THE SEED: the statements are not yours to turn. If you find one false, say at which input.
  Laid BY PROGRAM, IN A SANDBOX (cutbox-rows.mjs): the forced cells as the released guide's own fill.sh prints them over the translation 1d52c4f20c7fd054… (all of the seat's roots in one cut). By AI agents, Wed Nov 11 2026. No macro, syntax, notation, axiom, sorry.
-/
import Derived.Test.YthlpimdpgmknoaaDoorChecked
import GoSem.Claim
import GoSem.ClaimJoined
import GoSem.ClaimMapViews
import Derived.JoinedTies
import Derived.KernelRfl
namespace Go.Proofs.YthlpimdpgmknoaaDoor
/- THE CELL 'sum', in the pinned program and in every row, IS THE sha256 OF THE DUMP (.gsa) THAT YthlpimdpgmknoaaDoorProg.lean LOADS. Nothing in Lean hashes anything: it is a label: what it is worth is what the hold of that sum in a sandbox is worth. -/
noncomputable def Tryd.pinned : Pinned := { name := "ythlpimdpgmknoaadoor", sum := "1d52c4f20c7fd05466d20cbd5f7d74a4b656e21cedd5ea616ec219d359af8541", checked := Tryd.checked }
namespace Rows
def none {H : Type} : Left H := { results := [], args := [] }

/- WHAT THE LISTED PACKAGE-LEVEL VARIABLES READ AS WHEN THE CALL BEGINS. Each datum BY PROGRAM (the guide's laid-datum.mjs) off the statement by which the dump's own 'gosem.cut.vars' lays the variable. In a bare row this is a premise. The card (YthlpimdpgmknoaaDoorCards.lean) ties it to the program's text. -/
def laid_math_bits_deBruijn32tab {H : Type} : DataW H := .agg [.lit (.int .u8 0), .lit (.int .u8 1), .lit (.int .u8 28), .lit (.int .u8 2), .lit (.int .u8 29), .lit (.int .u8 14), .lit (.int .u8 24), .lit (.int .u8 3), .lit (.int .u8 30), .lit (.int .u8 22), .lit (.int .u8 20), .lit (.int .u8 15), .lit (.int .u8 25), .lit (.int .u8 17), .lit (.int .u8 4), .lit (.int .u8 8), .lit (.int .u8 31), .lit (.int .u8 27), .lit (.int .u8 13), .lit (.int .u8 23), .lit (.int .u8 21), .lit (.int .u8 19), .lit (.int .u8 16), .lit (.int .u8 7), .lit (.int .u8 26), .lit (.int .u8 12), .lit (.int .u8 18), .lit (.int .u8 6), .lit (.int .u8 11), .lit (.int .u8 5), .lit (.int .u8 10), .lit (.int .u8 9)]
def laid_math_bits_deBruijn64tab {H : Type} : DataW H := .agg [.lit (.int .u8 0), .lit (.int .u8 1), .lit (.int .u8 56), .lit (.int .u8 2), .lit (.int .u8 57), .lit (.int .u8 49), .lit (.int .u8 28), .lit (.int .u8 3), .lit (.int .u8 61), .lit (.int .u8 58), .lit (.int .u8 42), .lit (.int .u8 50), .lit (.int .u8 38), .lit (.int .u8 29), .lit (.int .u8 17), .lit (.int .u8 4), .lit (.int .u8 62), .lit (.int .u8 47), .lit (.int .u8 59), .lit (.int .u8 36), .lit (.int .u8 45), .lit (.int .u8 43), .lit (.int .u8 51), .lit (.int .u8 22), .lit (.int .u8 53), .lit (.int .u8 39), .lit (.int .u8 33), .lit (.int .u8 30), .lit (.int .u8 24), .lit (.int .u8 18), .lit (.int .u8 12), .lit (.int .u8 5), .lit (.int .u8 63), .lit (.int .u8 55), .lit (.int .u8 48), .lit (.int .u8 27), .lit (.int .u8 60), .lit (.int .u8 41), .lit (.int .u8 37), .lit (.int .u8 16), .lit (.int .u8 46), .lit (.int .u8 35), .lit (.int .u8 44), .lit (.int .u8 21), .lit (.int .u8 52), .lit (.int .u8 32), .lit (.int .u8 23), .lit (.int .u8 11), .lit (.int .u8 54), .lit (.int .u8 26), .lit (.int .u8 40), .lit (.int .u8 15), .lit (.int .u8 34), .lit (.int .u8 20), .lit (.int .u8 31), .lit (.int .u8 10), .lit (.int .u8 25), .lit (.int .u8 14), .lit (.int .u8 19), .lit (.int .u8 9), .lit (.int .u8 13), .lit (.int .u8 8), .lit (.int .u8 7), .lit (.int .u8 6)]
def laid_internal_strconv_uint64pow10 {H : Type} : DataW H := .agg [.lit (.int .u64 1), .lit (.int .u64 10), .lit (.int .u64 100), .lit (.int .u64 1000), .lit (.int .u64 10000), .lit (.int .u64 100000), .lit (.int .u64 1000000), .lit (.int .u64 10000000), .lit (.int .u64 100000000), .lit (.int .u64 1000000000), .lit (.int .u64 10000000000), .lit (.int .u64 100000000000), .lit (.int .u64 1000000000000), .lit (.int .u64 10000000000000), .lit (.int .u64 100000000000000), .lit (.int .u64 1000000000000000), .lit (.int .u64 10000000000000000), .lit (.int .u64 100000000000000000), .lit (.int .u64 1000000000000000000), .lit (.int .u64 10000000000000000000)]

/-- 'propylonlaw9.BigMuls': WHATEVER THE INPUT: true; the input reads as it did. -/
def bigMulsSpec : ChangeSpec := { name := "bigMuls", fn := fun _ => fun
  | [d1, d2] => { results := [.lit (.bool true)], args := [d1, d2] }
  | _ => none }
def bigMulsRow : OpenClaim := { program := "ythlpimdpgmknoaadoor", sum := "1d52c4f20c7fd05466d20cbd5f7d74a4b656e21cedd5ea616ec219d359af8541", func := "propylon/propylonlaw9.BigMuls", spec := "bigMuls", inPlace := ["math.archTrunc", "math.Float64bits", "math.Float64frombits", "internal/abi.NoEscape", "internal/bytealg.MakeNoZero"], unfollowed := true, recurses := true, named := ["internal/strconv.uint64pow10", "math/bits.deBruijn32tab", "math/bits.deBruijn64tab"], apart := false, laid := [("math/bits.deBruijn32tab", laid_math_bits_deBruijn32tab), ("math/bits.deBruijn64tab", laid_math_bits_deBruijn64tab), ("internal/strconv.uint64pow10", laid_internal_strconv_uint64pow10)] }
def BigMulsSaid : Prop := bigMulsRow.holds Tryd.pinned (OpenSpec.ofChange bigMulsSpec)

/-- ITS FALSE NEIGHBOUR: 'it returns false'. Refute it at one input. -/
def bigMulsWrong : ChangeSpec := { name := "bigMuls", fn := fun _ => fun
  | [d1, d2] => { results := [.lit (.bool false)], args := [d1, d2] }
  | _ => none }
def BigMulsWrongFalsely : Prop := bigMulsRow.holds Tryd.pinned (OpenSpec.ofChange bigMulsWrong)

/-- 'propylonlaw9.BigTexts': WHATEVER THE INPUT: true; the input reads as it did. -/
def bigTextsSpec : ChangeSpec := { name := "bigTexts", fn := fun _ => fun
  | [d1, d2, d3] => { results := [.lit (.bool true)], args := [d1, d2, d3] }
  | _ => none }
def bigTextsRow : OpenClaim := { program := "ythlpimdpgmknoaadoor", sum := "1d52c4f20c7fd05466d20cbd5f7d74a4b656e21cedd5ea616ec219d359af8541", func := "propylon/propylonlaw9.BigTexts", spec := "bigTexts", inPlace := ["math.archTrunc", "math.Float64bits", "math.Float64frombits", "internal/abi.NoEscape", "internal/bytealg.MakeNoZero"], unfollowed := true, recurses := true, named := ["internal/strconv.uint64pow10", "math/bits.deBruijn32tab", "math/bits.deBruijn64tab"], apart := false, laid := [("math/bits.deBruijn32tab", laid_math_bits_deBruijn32tab), ("math/bits.deBruijn64tab", laid_math_bits_deBruijn64tab), ("internal/strconv.uint64pow10", laid_internal_strconv_uint64pow10)] }
def BigTextsSaid : Prop := bigTextsRow.holds Tryd.pinned (OpenSpec.ofChange bigTextsSpec)

/-- ITS FALSE NEIGHBOUR: 'it returns false'. Refute it at one input. -/
def bigTextsWrong : ChangeSpec := { name := "bigTexts", fn := fun _ => fun
  | [d1, d2, d3] => { results := [.lit (.bool false)], args := [d1, d2, d3] }
  | _ => none }
def BigTextsWrongFalsely : Prop := bigTextsRow.holds Tryd.pinned (OpenSpec.ofChange bigTextsWrong)

/-- 'propylonlaw9.BigSums': WHATEVER THE INPUT: true; the input reads as it did. -/
def bigSumsSpec : ChangeSpec := { name := "bigSums", fn := fun _ => fun
  | [d1, d2] => { results := [.lit (.bool true)], args := [d1, d2] }
  | _ => none }
def bigSumsRow : OpenClaim := { program := "ythlpimdpgmknoaadoor", sum := "1d52c4f20c7fd05466d20cbd5f7d74a4b656e21cedd5ea616ec219d359af8541", func := "propylon/propylonlaw9.BigSums", spec := "bigSums", inPlace := ["math.archTrunc", "math.Float64bits", "math.Float64frombits", "internal/abi.NoEscape", "internal/bytealg.MakeNoZero"], unfollowed := true, recurses := true, named := ["internal/strconv.uint64pow10", "math/bits.deBruijn32tab", "math/bits.deBruijn64tab"], apart := false, laid := [("math/bits.deBruijn32tab", laid_math_bits_deBruijn32tab), ("math/bits.deBruijn64tab", laid_math_bits_deBruijn64tab), ("internal/strconv.uint64pow10", laid_internal_strconv_uint64pow10)] }
def BigSumsSaid : Prop := bigSumsRow.holds Tryd.pinned (OpenSpec.ofChange bigSumsSpec)

/-- ITS FALSE NEIGHBOUR: 'it returns false'. Refute it at one input. -/
def bigSumsWrong : ChangeSpec := { name := "bigSums", fn := fun _ => fun
  | [d1, d2] => { results := [.lit (.bool false)], args := [d1, d2] }
  | _ => none }
def BigSumsWrongFalsely : Prop := bigSumsRow.holds Tryd.pinned (OpenSpec.ofChange bigSumsWrong)

/-- 'propylonlaw9.BigLaws': WHATEVER THE INPUT: true; the input reads as it did. -/
def bigLawsSpec : ChangeSpec := { name := "bigLaws", fn := fun _ => fun
  | [d1, d2, d3] => { results := [.lit (.bool true)], args := [d1, d2, d3] }
  | _ => none }
def bigLawsRow : OpenClaim := { program := "ythlpimdpgmknoaadoor", sum := "1d52c4f20c7fd05466d20cbd5f7d74a4b656e21cedd5ea616ec219d359af8541", func := "propylon/propylonlaw9.BigLaws", spec := "bigLaws", inPlace := ["math.archTrunc", "math.Float64bits", "math.Float64frombits", "internal/abi.NoEscape", "internal/bytealg.MakeNoZero"], unfollowed := true, recurses := true, named := ["internal/strconv.uint64pow10", "math/bits.deBruijn32tab", "math/bits.deBruijn64tab"], apart := false, laid := [("math/bits.deBruijn32tab", laid_math_bits_deBruijn32tab), ("math/bits.deBruijn64tab", laid_math_bits_deBruijn64tab), ("internal/strconv.uint64pow10", laid_internal_strconv_uint64pow10)] }
def BigLawsSaid : Prop := bigLawsRow.holds Tryd.pinned (OpenSpec.ofChange bigLawsSpec)

/-- ITS FALSE NEIGHBOUR: 'it returns false'. Refute it at one input. -/
def bigLawsWrong : ChangeSpec := { name := "bigLaws", fn := fun _ => fun
  | [d1, d2, d3] => { results := [.lit (.bool false)], args := [d1, d2, d3] }
  | _ => none }
def BigLawsWrongFalsely : Prop := bigLawsRow.holds Tryd.pinned (OpenSpec.ofChange bigLawsWrong)

/-- 'propylonlaw9.BigShifts': WHATEVER THE INPUT: true; the input reads as it did. -/
def bigShiftsSpec : ChangeSpec := { name := "bigShifts", fn := fun _ => fun
  | [d1, d2, d3] => { results := [.lit (.bool true)], args := [d1, d2, d3] }
  | _ => none }
def bigShiftsRow : OpenClaim := { program := "ythlpimdpgmknoaadoor", sum := "1d52c4f20c7fd05466d20cbd5f7d74a4b656e21cedd5ea616ec219d359af8541", func := "propylon/propylonlaw9.BigShifts", spec := "bigShifts", inPlace := ["math.archTrunc", "math.Float64bits", "math.Float64frombits", "internal/abi.NoEscape", "internal/bytealg.MakeNoZero"], unfollowed := true, recurses := true, named := ["internal/strconv.uint64pow10", "math/bits.deBruijn32tab", "math/bits.deBruijn64tab"], apart := false, laid := [("math/bits.deBruijn32tab", laid_math_bits_deBruijn32tab), ("math/bits.deBruijn64tab", laid_math_bits_deBruijn64tab), ("internal/strconv.uint64pow10", laid_internal_strconv_uint64pow10)] }
def BigShiftsSaid : Prop := bigShiftsRow.holds Tryd.pinned (OpenSpec.ofChange bigShiftsSpec)

/-- ITS FALSE NEIGHBOUR: 'it returns false'. Refute it at one input. -/
def bigShiftsWrong : ChangeSpec := { name := "bigShifts", fn := fun _ => fun
  | [d1, d2, d3] => { results := [.lit (.bool false)], args := [d1, d2, d3] }
  | _ => none }
def BigShiftsWrongFalsely : Prop := bigShiftsRow.holds Tryd.pinned (OpenSpec.ofChange bigShiftsWrong)

/-- 'propylonlaw9.BigDivs': WHATEVER THE INPUT: true; the input reads as it did. -/
def bigDivsSpec : ChangeSpec := { name := "bigDivs", fn := fun _ => fun
  | [d1, d2] => { results := [.lit (.bool true)], args := [d1, d2] }
  | _ => none }
def bigDivsRow : OpenClaim := { program := "ythlpimdpgmknoaadoor", sum := "1d52c4f20c7fd05466d20cbd5f7d74a4b656e21cedd5ea616ec219d359af8541", func := "propylon/propylonlaw9.BigDivs", spec := "bigDivs", inPlace := ["math.archTrunc", "math.Float64bits", "math.Float64frombits", "internal/abi.NoEscape", "internal/bytealg.MakeNoZero"], unfollowed := true, recurses := true, named := ["internal/strconv.uint64pow10", "math/bits.deBruijn32tab", "math/bits.deBruijn64tab"], apart := false, laid := [("math/bits.deBruijn32tab", laid_math_bits_deBruijn32tab), ("math/bits.deBruijn64tab", laid_math_bits_deBruijn64tab), ("internal/strconv.uint64pow10", laid_internal_strconv_uint64pow10)] }
def BigDivsSaid : Prop := bigDivsRow.holds Tryd.pinned (OpenSpec.ofChange bigDivsSpec)

/-- ITS FALSE NEIGHBOUR: 'it returns false'. Refute it at one input. -/
def bigDivsWrong : ChangeSpec := { name := "bigDivs", fn := fun _ => fun
  | [d1, d2] => { results := [.lit (.bool false)], args := [d1, d2] }
  | _ => none }
def BigDivsWrongFalsely : Prop := bigDivsRow.holds Tryd.pinned (OpenSpec.ofChange bigDivsWrong)

/- THE SECOND FORM. 'bulk': how many values and letters a reading holds, each counted each time it is reached (what is shared counts as often as it is met; a slice's spare places count too). A statement '..UptoSaid' is the law's where the arguments, and the package variables that the reading takes, are together of bulk at most 1048576: NARROWER than '..Said'. Prove '..Said' where nothing that the law and all that it calls make is longer than what came in: it says more and counts as full. Else prove '..UptoSaid'. A law counts once. -/
mutual
def uptoBulk {H : Type} : DataW H → Nat
  | .lit (.string bytes) => bytes.length + 1
  | .lit _ => 1
  | .nil => 1
  | .ptr d => uptoBulk d + 1
  | .slice elems spare => uptoBulkAll elems + uptoBulkAll spare + 1
  | .agg parts => uptoBulkAll parts + 1
  | .iface _ d => uptoBulk d + 1
  | .map entries => uptoBulkEntries entries + 1
  | .held _ => 1
def uptoBulkAll {H : Type} : List (DataW H) → Nat
  | [] => 0
  | d :: r => uptoBulk d + uptoBulkAll r
def uptoBulkEntries {H : Type} : List (Lit × DataW H) → Nat
  | [] => 0
  | x :: r => uptoBulkEntry x + uptoBulkEntries r
def uptoBulkEntry {H : Type} : Lit × DataW H → Nat
  | (.string bytes, d) => bytes.length + uptoBulk d + 1
  | (_, d) => uptoBulk d + 1
 end
def uptoSmall : (H : Type) → List (DataW H) → Bool := fun _ ds => decide (uptoBulkAll ds ≤ 1048576)
def OpenSpec.upto (s : _root_.Go.ChangeSpec) : _root_.Go.OpenSpec := { _root_.Go.OpenSpec.ofChange s with cond := some uptoSmall }

/-- 'propylonlaw9.BigMuls', WHERE WHAT IT READS IS OF BULK AT MOST 1048576: true; the input reads as it did. -/
def bigMulsUptoRow : OpenClaim := { program := "ythlpimdpgmknoaadoor", sum := "1d52c4f20c7fd05466d20cbd5f7d74a4b656e21cedd5ea616ec219d359af8541", func := "propylon/propylonlaw9.BigMuls", spec := "bigMuls", inPlace := ["math.archTrunc", "math.Float64bits", "math.Float64frombits", "internal/abi.NoEscape", "internal/bytealg.MakeNoZero"], unfollowed := true, recurses := true, named := ["internal/strconv.uint64pow10", "math/bits.deBruijn32tab", "math/bits.deBruijn64tab"], apart := false, laid := [("math/bits.deBruijn32tab", laid_math_bits_deBruijn32tab), ("math/bits.deBruijn64tab", laid_math_bits_deBruijn64tab), ("internal/strconv.uint64pow10", laid_internal_strconv_uint64pow10)], narrowed := true }
def BigMulsUptoSaid : Prop := bigMulsUptoRow.holds Tryd.pinned (OpenSpec.upto bigMulsSpec)

/-- 'propylonlaw9.BigTexts', WHERE WHAT IT READS IS OF BULK AT MOST 1048576: true; the input reads as it did. -/
def bigTextsUptoRow : OpenClaim := { program := "ythlpimdpgmknoaadoor", sum := "1d52c4f20c7fd05466d20cbd5f7d74a4b656e21cedd5ea616ec219d359af8541", func := "propylon/propylonlaw9.BigTexts", spec := "bigTexts", inPlace := ["math.archTrunc", "math.Float64bits", "math.Float64frombits", "internal/abi.NoEscape", "internal/bytealg.MakeNoZero"], unfollowed := true, recurses := true, named := ["internal/strconv.uint64pow10", "math/bits.deBruijn32tab", "math/bits.deBruijn64tab"], apart := false, laid := [("math/bits.deBruijn32tab", laid_math_bits_deBruijn32tab), ("math/bits.deBruijn64tab", laid_math_bits_deBruijn64tab), ("internal/strconv.uint64pow10", laid_internal_strconv_uint64pow10)], narrowed := true }
def BigTextsUptoSaid : Prop := bigTextsUptoRow.holds Tryd.pinned (OpenSpec.upto bigTextsSpec)

/-- 'propylonlaw9.BigSums', WHERE WHAT IT READS IS OF BULK AT MOST 1048576: true; the input reads as it did. -/
def bigSumsUptoRow : OpenClaim := { program := "ythlpimdpgmknoaadoor", sum := "1d52c4f20c7fd05466d20cbd5f7d74a4b656e21cedd5ea616ec219d359af8541", func := "propylon/propylonlaw9.BigSums", spec := "bigSums", inPlace := ["math.archTrunc", "math.Float64bits", "math.Float64frombits", "internal/abi.NoEscape", "internal/bytealg.MakeNoZero"], unfollowed := true, recurses := true, named := ["internal/strconv.uint64pow10", "math/bits.deBruijn32tab", "math/bits.deBruijn64tab"], apart := false, laid := [("math/bits.deBruijn32tab", laid_math_bits_deBruijn32tab), ("math/bits.deBruijn64tab", laid_math_bits_deBruijn64tab), ("internal/strconv.uint64pow10", laid_internal_strconv_uint64pow10)], narrowed := true }
def BigSumsUptoSaid : Prop := bigSumsUptoRow.holds Tryd.pinned (OpenSpec.upto bigSumsSpec)

/-- 'propylonlaw9.BigLaws', WHERE WHAT IT READS IS OF BULK AT MOST 1048576: true; the input reads as it did. -/
def bigLawsUptoRow : OpenClaim := { program := "ythlpimdpgmknoaadoor", sum := "1d52c4f20c7fd05466d20cbd5f7d74a4b656e21cedd5ea616ec219d359af8541", func := "propylon/propylonlaw9.BigLaws", spec := "bigLaws", inPlace := ["math.archTrunc", "math.Float64bits", "math.Float64frombits", "internal/abi.NoEscape", "internal/bytealg.MakeNoZero"], unfollowed := true, recurses := true, named := ["internal/strconv.uint64pow10", "math/bits.deBruijn32tab", "math/bits.deBruijn64tab"], apart := false, laid := [("math/bits.deBruijn32tab", laid_math_bits_deBruijn32tab), ("math/bits.deBruijn64tab", laid_math_bits_deBruijn64tab), ("internal/strconv.uint64pow10", laid_internal_strconv_uint64pow10)], narrowed := true }
def BigLawsUptoSaid : Prop := bigLawsUptoRow.holds Tryd.pinned (OpenSpec.upto bigLawsSpec)

/-- 'propylonlaw9.BigShifts', WHERE WHAT IT READS IS OF BULK AT MOST 1048576: true; the input reads as it did. -/
def bigShiftsUptoRow : OpenClaim := { program := "ythlpimdpgmknoaadoor", sum := "1d52c4f20c7fd05466d20cbd5f7d74a4b656e21cedd5ea616ec219d359af8541", func := "propylon/propylonlaw9.BigShifts", spec := "bigShifts", inPlace := ["math.archTrunc", "math.Float64bits", "math.Float64frombits", "internal/abi.NoEscape", "internal/bytealg.MakeNoZero"], unfollowed := true, recurses := true, named := ["internal/strconv.uint64pow10", "math/bits.deBruijn32tab", "math/bits.deBruijn64tab"], apart := false, laid := [("math/bits.deBruijn32tab", laid_math_bits_deBruijn32tab), ("math/bits.deBruijn64tab", laid_math_bits_deBruijn64tab), ("internal/strconv.uint64pow10", laid_internal_strconv_uint64pow10)], narrowed := true }
def BigShiftsUptoSaid : Prop := bigShiftsUptoRow.holds Tryd.pinned (OpenSpec.upto bigShiftsSpec)

/-- 'propylonlaw9.BigDivs', WHERE WHAT IT READS IS OF BULK AT MOST 1048576: true; the input reads as it did. -/
def bigDivsUptoRow : OpenClaim := { program := "ythlpimdpgmknoaadoor", sum := "1d52c4f20c7fd05466d20cbd5f7d74a4b656e21cedd5ea616ec219d359af8541", func := "propylon/propylonlaw9.BigDivs", spec := "bigDivs", inPlace := ["math.archTrunc", "math.Float64bits", "math.Float64frombits", "internal/abi.NoEscape", "internal/bytealg.MakeNoZero"], unfollowed := true, recurses := true, named := ["internal/strconv.uint64pow10", "math/bits.deBruijn32tab", "math/bits.deBruijn64tab"], apart := false, laid := [("math/bits.deBruijn32tab", laid_math_bits_deBruijn32tab), ("math/bits.deBruijn64tab", laid_math_bits_deBruijn64tab), ("internal/strconv.uint64pow10", laid_internal_strconv_uint64pow10)], narrowed := true }
def BigDivsUptoSaid : Prop := bigDivsUptoRow.holds Tryd.pinned (OpenSpec.upto bigDivsSpec)

end Rows
end Go.Proofs.YthlpimdpgmknoaaDoor
