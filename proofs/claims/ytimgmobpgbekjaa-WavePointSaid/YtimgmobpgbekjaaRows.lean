/-
  No cell of these rows narrows 'for every input' (looked for: loops, veiled, ifaces, maps, wideKeys, modest, calm, conditions, laid).
  DERIVED. THE GIVEN ROWS OF THIS SEAT. 12 by the template 'for every input the law returns true; each argument reads behind the call as it read before'; 0 by the template 'total and deterministic' (their statements: YtimgmobpgbekjaaTotals.lean).
  GIVEN WITH THE SEED: the statements are not yours to turn. If you find one false, say at which input.
  Laid BY PROGRAM, IN A SANDBOX (cutbox-rows.mjs): the forced cells as the released guide's own fill.sh prints them over the translation c51444b84bef105b… (all of the seat's roots in one cut). By AI agents, Wed Nov 11 2026. No macro, syntax, notation, axiom, sorry.
-/
import Derived.Test.YtimgmobpgbekjaaChecked
import GoSem.Claim
import GoSem.ClaimJoined
import GoSem.ClaimMapViews
import Derived.JoinedTies
import Derived.KernelRfl
namespace Go.Proofs.Ytimgmobpgbekjaa
/- THE CELL 'sum', in the pinned program and in every row, IS THE sha256 OF THE DUMP (.gsa) THAT YtimgmobpgbekjaaProg.lean LOADS. Nothing in Lean hashes anything: it is a label: what it is worth is what the hold of that sum in a sandbox is worth. -/
noncomputable def Try.pinned : Pinned := { name := "ytimgmobpgbekjaa", sum := "c51444b84bef105b8b5f5633bc0cc10f3b1c07d8fbc8bab4bb72c87b4905193a", checked := Try.checked }
namespace Rows
def none {H : Type} : Left H := { results := [], args := [] }

/-- 'propylonlaw7.GaussParts': WHATEVER THE INPUT: true; the input reads as it did. -/
def gaussPartsSpec : ChangeSpec := { name := "gaussParts", fn := fun _ => fun
  | [d1, d2] => { results := [.lit (.bool true)], args := [d1, d2] }
  | _ => none }
def gaussPartsRow : OpenClaim := { program := "ytimgmobpgbekjaa", sum := "c51444b84bef105b8b5f5633bc0cc10f3b1c07d8fbc8bab4bb72c87b4905193a", func := "propylon/propylonlaw7.GaussParts", spec := "gaussParts", inPlace := ["math.archTrunc", "math.Float64bits", "math.Float64frombits"], unfollowed := true, recurses := true, apart := false }
def GaussPartsSaid : Prop := gaussPartsRow.holds Try.pinned (OpenSpec.ofChange gaussPartsSpec)

/-- ITS FALSE NEIGHBOUR: 'it returns false'. Refute it at one input. -/
def gaussPartsWrong : ChangeSpec := { name := "gaussParts", fn := fun _ => fun
  | [d1, d2] => { results := [.lit (.bool false)], args := [d1, d2] }
  | _ => none }
def GaussPartsWrongFalsely : Prop := gaussPartsRow.holds Try.pinned (OpenSpec.ofChange gaussPartsWrong)

/-- 'propylonlaw7.GaussBits': WHATEVER THE INPUT: true; the input reads as it did. -/
def gaussBitsSpec : ChangeSpec := { name := "gaussBits", fn := fun _ => fun
  | [d1, d2] => { results := [.lit (.bool true)], args := [d1, d2] }
  | _ => none }
def gaussBitsRow : OpenClaim := { program := "ytimgmobpgbekjaa", sum := "c51444b84bef105b8b5f5633bc0cc10f3b1c07d8fbc8bab4bb72c87b4905193a", func := "propylon/propylonlaw7.GaussBits", spec := "gaussBits", inPlace := ["math.archTrunc", "math.Float64bits", "math.Float64frombits"], unfollowed := true, recurses := true, apart := false }
def GaussBitsSaid : Prop := gaussBitsRow.holds Try.pinned (OpenSpec.ofChange gaussBitsSpec)

/-- ITS FALSE NEIGHBOUR: 'it returns false'. Refute it at one input. -/
def gaussBitsWrong : ChangeSpec := { name := "gaussBits", fn := fun _ => fun
  | [d1, d2] => { results := [.lit (.bool false)], args := [d1, d2] }
  | _ => none }
def GaussBitsWrongFalsely : Prop := gaussBitsRow.holds Try.pinned (OpenSpec.ofChange gaussBitsWrong)

/-- 'propylonlaw7.GaussTurns': WHATEVER THE INPUT: true; the input reads as it did. -/
def gaussTurnsSpec : ChangeSpec := { name := "gaussTurns", fn := fun _ => fun
  | [d1, d2, d3] => { results := [.lit (.bool true)], args := [d1, d2, d3] }
  | _ => none }
def gaussTurnsRow : OpenClaim := { program := "ytimgmobpgbekjaa", sum := "c51444b84bef105b8b5f5633bc0cc10f3b1c07d8fbc8bab4bb72c87b4905193a", func := "propylon/propylonlaw7.GaussTurns", spec := "gaussTurns", inPlace := ["math.archTrunc", "math.Float64bits", "math.Float64frombits"], unfollowed := true, recurses := true, apart := false }
def GaussTurnsSaid : Prop := gaussTurnsRow.holds Try.pinned (OpenSpec.ofChange gaussTurnsSpec)

/-- ITS FALSE NEIGHBOUR: 'it returns false'. Refute it at one input. -/
def gaussTurnsWrong : ChangeSpec := { name := "gaussTurns", fn := fun _ => fun
  | [d1, d2, d3] => { results := [.lit (.bool false)], args := [d1, d2, d3] }
  | _ => none }
def GaussTurnsWrongFalsely : Prop := gaussTurnsRow.holds Try.pinned (OpenSpec.ofChange gaussTurnsWrong)

/-- 'propylonlaw7.GaussTimes': WHATEVER THE INPUT: true; the input reads as it did. -/
def gaussTimesSpec : ChangeSpec := { name := "gaussTimes", fn := fun _ => fun
  | [d] => { results := [.lit (.bool true)], args := [d] }
  | _ => none }
def gaussTimesRow : OpenClaim := { program := "ytimgmobpgbekjaa", sum := "c51444b84bef105b8b5f5633bc0cc10f3b1c07d8fbc8bab4bb72c87b4905193a", func := "propylon/propylonlaw7.GaussTimes", spec := "gaussTimes", inPlace := ["math.archTrunc", "math.Float64bits", "math.Float64frombits"], unfollowed := true, recurses := true, apart := false }
def GaussTimesSaid : Prop := gaussTimesRow.holds Try.pinned (OpenSpec.ofChange gaussTimesSpec)

/-- ITS FALSE NEIGHBOUR: 'it returns false'. Refute it at one input. -/
def gaussTimesWrong : ChangeSpec := { name := "gaussTimes", fn := fun _ => fun
  | [d] => { results := [.lit (.bool false)], args := [d] }
  | _ => none }
def GaussTimesWrongFalsely : Prop := gaussTimesRow.holds Try.pinned (OpenSpec.ofChange gaussTimesWrong)

/-- 'propylonlaw7.GaussNorms': WHATEVER THE INPUT: true; the input reads as it did. -/
def gaussNormsSpec : ChangeSpec := { name := "gaussNorms", fn := fun _ => fun
  | [d] => { results := [.lit (.bool true)], args := [d] }
  | _ => none }
def gaussNormsRow : OpenClaim := { program := "ytimgmobpgbekjaa", sum := "c51444b84bef105b8b5f5633bc0cc10f3b1c07d8fbc8bab4bb72c87b4905193a", func := "propylon/propylonlaw7.GaussNorms", spec := "gaussNorms", inPlace := ["math.archTrunc", "math.Float64bits", "math.Float64frombits"], unfollowed := true, recurses := true, apart := false }
def GaussNormsSaid : Prop := gaussNormsRow.holds Try.pinned (OpenSpec.ofChange gaussNormsSpec)

/-- ITS FALSE NEIGHBOUR: 'it returns false'. Refute it at one input. -/
def gaussNormsWrong : ChangeSpec := { name := "gaussNorms", fn := fun _ => fun
  | [d] => { results := [.lit (.bool false)], args := [d] }
  | _ => none }
def GaussNormsWrongFalsely : Prop := gaussNormsRow.holds Try.pinned (OpenSpec.ofChange gaussNormsWrong)

/-- 'propylonlaw7.GaussQuos': WHATEVER THE INPUT: true; the input reads as it did. -/
def gaussQuosSpec : ChangeSpec := { name := "gaussQuos", fn := fun _ => fun
  | [d] => { results := [.lit (.bool true)], args := [d] }
  | _ => none }
def gaussQuosRow : OpenClaim := { program := "ytimgmobpgbekjaa", sum := "c51444b84bef105b8b5f5633bc0cc10f3b1c07d8fbc8bab4bb72c87b4905193a", func := "propylon/propylonlaw7.GaussQuos", spec := "gaussQuos", inPlace := ["math.archTrunc", "math.Float64bits", "math.Float64frombits"], unfollowed := true, recurses := true, apart := false }
def GaussQuosSaid : Prop := gaussQuosRow.holds Try.pinned (OpenSpec.ofChange gaussQuosSpec)

/-- ITS FALSE NEIGHBOUR: 'it returns false'. Refute it at one input. -/
def gaussQuosWrong : ChangeSpec := { name := "gaussQuos", fn := fun _ => fun
  | [d] => { results := [.lit (.bool false)], args := [d] }
  | _ => none }
def GaussQuosWrongFalsely : Prop := gaussQuosRow.holds Try.pinned (OpenSpec.ofChange gaussQuosWrong)

/-- 'propylonlaw8.WaveFour': WHATEVER THE INPUT: true; the input reads as it did. -/
def waveFourSpec : ChangeSpec := { name := "waveFour", fn := fun _ => fun
  | [d] => { results := [.lit (.bool true)], args := [d] }
  | _ => none }
def waveFourRow : OpenClaim := { program := "ytimgmobpgbekjaa", sum := "c51444b84bef105b8b5f5633bc0cc10f3b1c07d8fbc8bab4bb72c87b4905193a", func := "propylon/propylonlaw8.WaveFour", spec := "waveFour", inPlace := ["math.archTrunc", "math.Float64bits", "math.Float64frombits"], unfollowed := true, recurses := true, apart := false }
def WaveFourSaid : Prop := waveFourRow.holds Try.pinned (OpenSpec.ofChange waveFourSpec)

/-- ITS FALSE NEIGHBOUR: 'it returns false'. Refute it at one input. -/
def waveFourWrong : ChangeSpec := { name := "waveFour", fn := fun _ => fun
  | [d] => { results := [.lit (.bool false)], args := [d] }
  | _ => none }
def WaveFourWrongFalsely : Prop := waveFourRow.holds Try.pinned (OpenSpec.ofChange waveFourWrong)

/-- 'propylonlaw8.WaveBack': WHATEVER THE INPUT: true; the input reads as it did. -/
def waveBackSpec : ChangeSpec := { name := "waveBack", fn := fun _ => fun
  | [d] => { results := [.lit (.bool true)], args := [d] }
  | _ => none }
def waveBackRow : OpenClaim := { program := "ytimgmobpgbekjaa", sum := "c51444b84bef105b8b5f5633bc0cc10f3b1c07d8fbc8bab4bb72c87b4905193a", func := "propylon/propylonlaw8.WaveBack", spec := "waveBack", inPlace := ["math.archTrunc", "math.Float64bits", "math.Float64frombits"], unfollowed := true, recurses := true, apart := false }
def WaveBackSaid : Prop := waveBackRow.holds Try.pinned (OpenSpec.ofChange waveBackSpec)

/-- ITS FALSE NEIGHBOUR: 'it returns false'. Refute it at one input. -/
def waveBackWrong : ChangeSpec := { name := "waveBack", fn := fun _ => fun
  | [d] => { results := [.lit (.bool false)], args := [d] }
  | _ => none }
def WaveBackWrongFalsely : Prop := waveBackRow.holds Try.pinned (OpenSpec.ofChange waveBackWrong)

/-- 'propylonlaw8.WaveRound': WHATEVER THE INPUT: true; the input reads as it did. -/
def waveRoundSpec : ChangeSpec := { name := "waveRound", fn := fun _ => fun
  | [d] => { results := [.lit (.bool true)], args := [d] }
  | _ => none }
def waveRoundRow : OpenClaim := { program := "ytimgmobpgbekjaa", sum := "c51444b84bef105b8b5f5633bc0cc10f3b1c07d8fbc8bab4bb72c87b4905193a", func := "propylon/propylonlaw8.WaveRound", spec := "waveRound", inPlace := ["math.archTrunc", "math.Float64bits", "math.Float64frombits"], unfollowed := true, recurses := true, apart := false }
def WaveRoundSaid : Prop := waveRoundRow.holds Try.pinned (OpenSpec.ofChange waveRoundSpec)

/-- ITS FALSE NEIGHBOUR: 'it returns false'. Refute it at one input. -/
def waveRoundWrong : ChangeSpec := { name := "waveRound", fn := fun _ => fun
  | [d] => { results := [.lit (.bool false)], args := [d] }
  | _ => none }
def WaveRoundWrongFalsely : Prop := waveRoundRow.holds Try.pinned (OpenSpec.ofChange waveRoundWrong)

/-- 'propylonlaw8.WaveFold': WHATEVER THE INPUT: true; the input reads as it did. -/
def waveFoldSpec : ChangeSpec := { name := "waveFold", fn := fun _ => fun
  | [d1, d2] => { results := [.lit (.bool true)], args := [d1, d2] }
  | _ => none }
def waveFoldRow : OpenClaim := { program := "ytimgmobpgbekjaa", sum := "c51444b84bef105b8b5f5633bc0cc10f3b1c07d8fbc8bab4bb72c87b4905193a", func := "propylon/propylonlaw8.WaveFold", spec := "waveFold", inPlace := ["math.archTrunc", "math.Float64bits", "math.Float64frombits"], unfollowed := true, recurses := true, apart := false }
def WaveFoldSaid : Prop := waveFoldRow.holds Try.pinned (OpenSpec.ofChange waveFoldSpec)

/-- ITS FALSE NEIGHBOUR: 'it returns false'. Refute it at one input. -/
def waveFoldWrong : ChangeSpec := { name := "waveFold", fn := fun _ => fun
  | [d1, d2] => { results := [.lit (.bool false)], args := [d1, d2] }
  | _ => none }
def WaveFoldWrongFalsely : Prop := waveFoldRow.holds Try.pinned (OpenSpec.ofChange waveFoldWrong)

/-- 'propylonlaw8.WaveLaws': WHATEVER THE INPUT: true; the input reads as it did. -/
def waveLawsSpec : ChangeSpec := { name := "waveLaws", fn := fun _ => fun
  | [d1, d2, d3] => { results := [.lit (.bool true)], args := [d1, d2, d3] }
  | _ => none }
def waveLawsRow : OpenClaim := { program := "ytimgmobpgbekjaa", sum := "c51444b84bef105b8b5f5633bc0cc10f3b1c07d8fbc8bab4bb72c87b4905193a", func := "propylon/propylonlaw8.WaveLaws", spec := "waveLaws", inPlace := ["math.archTrunc", "math.Float64bits", "math.Float64frombits"], unfollowed := true, recurses := true, apart := false }
def WaveLawsSaid : Prop := waveLawsRow.holds Try.pinned (OpenSpec.ofChange waveLawsSpec)

/-- ITS FALSE NEIGHBOUR: 'it returns false'. Refute it at one input. -/
def waveLawsWrong : ChangeSpec := { name := "waveLaws", fn := fun _ => fun
  | [d1, d2, d3] => { results := [.lit (.bool false)], args := [d1, d2, d3] }
  | _ => none }
def WaveLawsWrongFalsely : Prop := waveLawsRow.holds Try.pinned (OpenSpec.ofChange waveLawsWrong)

/-- 'propylonlaw8.WavePoint': WHATEVER THE INPUT: true; the input reads as it did. -/
def wavePointSpec : ChangeSpec := { name := "wavePoint", fn := fun _ => fun
  | [d1, d2, d3] => { results := [.lit (.bool true)], args := [d1, d2, d3] }
  | _ => none }
def wavePointRow : OpenClaim := { program := "ytimgmobpgbekjaa", sum := "c51444b84bef105b8b5f5633bc0cc10f3b1c07d8fbc8bab4bb72c87b4905193a", func := "propylon/propylonlaw8.WavePoint", spec := "wavePoint", inPlace := ["math.archTrunc", "math.Float64bits", "math.Float64frombits"], unfollowed := true, recurses := true, apart := false }
def WavePointSaid : Prop := wavePointRow.holds Try.pinned (OpenSpec.ofChange wavePointSpec)

/-- ITS FALSE NEIGHBOUR: 'it returns false'. Refute it at one input. -/
def wavePointWrong : ChangeSpec := { name := "wavePoint", fn := fun _ => fun
  | [d1, d2, d3] => { results := [.lit (.bool false)], args := [d1, d2, d3] }
  | _ => none }
def WavePointWrongFalsely : Prop := wavePointRow.holds Try.pinned (OpenSpec.ofChange wavePointWrong)

/- THE SECOND FORM. 'bulk': how many values and letters a reading holds, each counted each time it is reached (what is shared counts as often as it is met; a slice's spare places count too). A statement '..UptoSaid' is the law's where the arguments, and the package variables that the reading takes, are together of bulk at most 1048576: NARROWER than '..Said'. Prove '..Said' where nothing that the law and all that it calls make is longer than what came in: it says more and counts as full. Else prove '..UptoSaid'. A law counts once. -/
mutual
def uptoBulk {H : Type} : DataW H → Nat
  | .lit (.string bytes) => bytes.length + 1
  | .lit _ => 1
  | .nil => 1
  | .ptr d => uptoBulk d + 1
  | .slice elems spare => uptoBulkAll elems + uptoBulkAll spare + 1
  | .agg parts => uptoBulkAll parts + 1
  | .iface _ d => uptoBulk d + 1
  | .map entries => uptoBulkEntries entries + 1
  | .held _ => 1
def uptoBulkAll {H : Type} : List (DataW H) → Nat
  | [] => 0
  | d :: r => uptoBulk d + uptoBulkAll r
def uptoBulkEntries {H : Type} : List (Lit × DataW H) → Nat
  | [] => 0
  | x :: r => uptoBulkEntry x + uptoBulkEntries r
def uptoBulkEntry {H : Type} : Lit × DataW H → Nat
  | (.string bytes, d) => bytes.length + uptoBulk d + 1
  | (_, d) => uptoBulk d + 1
 end
def uptoSmall : (H : Type) → List (DataW H) → Bool := fun _ ds => decide (uptoBulkAll ds ≤ 1048576)
def OpenSpec.upto (s : _root_.Go.ChangeSpec) : _root_.Go.OpenSpec := { _root_.Go.OpenSpec.ofChange s with cond := some uptoSmall }

/-- 'propylonlaw7.GaussParts', WHERE WHAT IT READS IS OF BULK AT MOST 1048576: true; the input reads as it did. -/
def gaussPartsUptoRow : OpenClaim := { program := "ytimgmobpgbekjaa", sum := "c51444b84bef105b8b5f5633bc0cc10f3b1c07d8fbc8bab4bb72c87b4905193a", func := "propylon/propylonlaw7.GaussParts", spec := "gaussParts", inPlace := ["math.archTrunc", "math.Float64bits", "math.Float64frombits"], unfollowed := true, recurses := true, apart := false, narrowed := true }
def GaussPartsUptoSaid : Prop := gaussPartsUptoRow.holds Try.pinned (OpenSpec.upto gaussPartsSpec)

/-- 'propylonlaw7.GaussBits', WHERE WHAT IT READS IS OF BULK AT MOST 1048576: true; the input reads as it did. -/
def gaussBitsUptoRow : OpenClaim := { program := "ytimgmobpgbekjaa", sum := "c51444b84bef105b8b5f5633bc0cc10f3b1c07d8fbc8bab4bb72c87b4905193a", func := "propylon/propylonlaw7.GaussBits", spec := "gaussBits", inPlace := ["math.archTrunc", "math.Float64bits", "math.Float64frombits"], unfollowed := true, recurses := true, apart := false, narrowed := true }
def GaussBitsUptoSaid : Prop := gaussBitsUptoRow.holds Try.pinned (OpenSpec.upto gaussBitsSpec)

/-- 'propylonlaw7.GaussTurns', WHERE WHAT IT READS IS OF BULK AT MOST 1048576: true; the input reads as it did. -/
def gaussTurnsUptoRow : OpenClaim := { program := "ytimgmobpgbekjaa", sum := "c51444b84bef105b8b5f5633bc0cc10f3b1c07d8fbc8bab4bb72c87b4905193a", func := "propylon/propylonlaw7.GaussTurns", spec := "gaussTurns", inPlace := ["math.archTrunc", "math.Float64bits", "math.Float64frombits"], unfollowed := true, recurses := true, apart := false, narrowed := true }
def GaussTurnsUptoSaid : Prop := gaussTurnsUptoRow.holds Try.pinned (OpenSpec.upto gaussTurnsSpec)

/-- 'propylonlaw7.GaussTimes', WHERE WHAT IT READS IS OF BULK AT MOST 1048576: true; the input reads as it did. -/
def gaussTimesUptoRow : OpenClaim := { program := "ytimgmobpgbekjaa", sum := "c51444b84bef105b8b5f5633bc0cc10f3b1c07d8fbc8bab4bb72c87b4905193a", func := "propylon/propylonlaw7.GaussTimes", spec := "gaussTimes", inPlace := ["math.archTrunc", "math.Float64bits", "math.Float64frombits"], unfollowed := true, recurses := true, apart := false, narrowed := true }
def GaussTimesUptoSaid : Prop := gaussTimesUptoRow.holds Try.pinned (OpenSpec.upto gaussTimesSpec)

/-- 'propylonlaw7.GaussNorms', WHERE WHAT IT READS IS OF BULK AT MOST 1048576: true; the input reads as it did. -/
def gaussNormsUptoRow : OpenClaim := { program := "ytimgmobpgbekjaa", sum := "c51444b84bef105b8b5f5633bc0cc10f3b1c07d8fbc8bab4bb72c87b4905193a", func := "propylon/propylonlaw7.GaussNorms", spec := "gaussNorms", inPlace := ["math.archTrunc", "math.Float64bits", "math.Float64frombits"], unfollowed := true, recurses := true, apart := false, narrowed := true }
def GaussNormsUptoSaid : Prop := gaussNormsUptoRow.holds Try.pinned (OpenSpec.upto gaussNormsSpec)

/-- 'propylonlaw7.GaussQuos', WHERE WHAT IT READS IS OF BULK AT MOST 1048576: true; the input reads as it did. -/
def gaussQuosUptoRow : OpenClaim := { program := "ytimgmobpgbekjaa", sum := "c51444b84bef105b8b5f5633bc0cc10f3b1c07d8fbc8bab4bb72c87b4905193a", func := "propylon/propylonlaw7.GaussQuos", spec := "gaussQuos", inPlace := ["math.archTrunc", "math.Float64bits", "math.Float64frombits"], unfollowed := true, recurses := true, apart := false, narrowed := true }
def GaussQuosUptoSaid : Prop := gaussQuosUptoRow.holds Try.pinned (OpenSpec.upto gaussQuosSpec)

/-- 'propylonlaw8.WaveFour', WHERE WHAT IT READS IS OF BULK AT MOST 1048576: true; the input reads as it did. -/
def waveFourUptoRow : OpenClaim := { program := "ytimgmobpgbekjaa", sum := "c51444b84bef105b8b5f5633bc0cc10f3b1c07d8fbc8bab4bb72c87b4905193a", func := "propylon/propylonlaw8.WaveFour", spec := "waveFour", inPlace := ["math.archTrunc", "math.Float64bits", "math.Float64frombits"], unfollowed := true, recurses := true, apart := false, narrowed := true }
def WaveFourUptoSaid : Prop := waveFourUptoRow.holds Try.pinned (OpenSpec.upto waveFourSpec)

/-- 'propylonlaw8.WaveBack', WHERE WHAT IT READS IS OF BULK AT MOST 1048576: true; the input reads as it did. -/
def waveBackUptoRow : OpenClaim := { program := "ytimgmobpgbekjaa", sum := "c51444b84bef105b8b5f5633bc0cc10f3b1c07d8fbc8bab4bb72c87b4905193a", func := "propylon/propylonlaw8.WaveBack", spec := "waveBack", inPlace := ["math.archTrunc", "math.Float64bits", "math.Float64frombits"], unfollowed := true, recurses := true, apart := false, narrowed := true }
def WaveBackUptoSaid : Prop := waveBackUptoRow.holds Try.pinned (OpenSpec.upto waveBackSpec)

/-- 'propylonlaw8.WaveRound', WHERE WHAT IT READS IS OF BULK AT MOST 1048576: true; the input reads as it did. -/
def waveRoundUptoRow : OpenClaim := { program := "ytimgmobpgbekjaa", sum := "c51444b84bef105b8b5f5633bc0cc10f3b1c07d8fbc8bab4bb72c87b4905193a", func := "propylon/propylonlaw8.WaveRound", spec := "waveRound", inPlace := ["math.archTrunc", "math.Float64bits", "math.Float64frombits"], unfollowed := true, recurses := true, apart := false, narrowed := true }
def WaveRoundUptoSaid : Prop := waveRoundUptoRow.holds Try.pinned (OpenSpec.upto waveRoundSpec)

/-- 'propylonlaw8.WaveFold', WHERE WHAT IT READS IS OF BULK AT MOST 1048576: true; the input reads as it did. -/
def waveFoldUptoRow : OpenClaim := { program := "ytimgmobpgbekjaa", sum := "c51444b84bef105b8b5f5633bc0cc10f3b1c07d8fbc8bab4bb72c87b4905193a", func := "propylon/propylonlaw8.WaveFold", spec := "waveFold", inPlace := ["math.archTrunc", "math.Float64bits", "math.Float64frombits"], unfollowed := true, recurses := true, apart := false, narrowed := true }
def WaveFoldUptoSaid : Prop := waveFoldUptoRow.holds Try.pinned (OpenSpec.upto waveFoldSpec)

/-- 'propylonlaw8.WaveLaws', WHERE WHAT IT READS IS OF BULK AT MOST 1048576: true; the input reads as it did. -/
def waveLawsUptoRow : OpenClaim := { program := "ytimgmobpgbekjaa", sum := "c51444b84bef105b8b5f5633bc0cc10f3b1c07d8fbc8bab4bb72c87b4905193a", func := "propylon/propylonlaw8.WaveLaws", spec := "waveLaws", inPlace := ["math.archTrunc", "math.Float64bits", "math.Float64frombits"], unfollowed := true, recurses := true, apart := false, narrowed := true }
def WaveLawsUptoSaid : Prop := waveLawsUptoRow.holds Try.pinned (OpenSpec.upto waveLawsSpec)

/-- 'propylonlaw8.WavePoint', WHERE WHAT IT READS IS OF BULK AT MOST 1048576: true; the input reads as it did. -/
def wavePointUptoRow : OpenClaim := { program := "ytimgmobpgbekjaa", sum := "c51444b84bef105b8b5f5633bc0cc10f3b1c07d8fbc8bab4bb72c87b4905193a", func := "propylon/propylonlaw8.WavePoint", spec := "wavePoint", inPlace := ["math.archTrunc", "math.Float64bits", "math.Float64frombits"], unfollowed := true, recurses := true, apart := false, narrowed := true }
def WavePointUptoSaid : Prop := wavePointUptoRow.holds Try.pinned (OpenSpec.upto wavePointSpec)

end Rows
end Go.Proofs.Ytimgmobpgbekjaa
