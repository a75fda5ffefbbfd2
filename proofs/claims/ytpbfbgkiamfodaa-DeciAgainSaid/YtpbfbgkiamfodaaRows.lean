/-
  No cell of these rows narrows 'for every input' (looked for: loops, veiled, ifaces, maps, wideKeys, modest, calm, conditions, laid).
  DERIVED. THE GIVEN ROWS OF THIS SEAT. 8 by the template 'for every input the law returns true; each argument reads behind the call as it read before'; 0 by the template 'total and deterministic' (their statements: YtpbfbgkiamfodaaTotals.lean).
  GIVEN WITH THE SEED: the statements are not yours to turn. If you find one false, say at which input.
  Laid BY PROGRAM, IN A SANDBOX (cutbox-rows.mjs): the forced cells as the released guide's own fill.sh prints them over the translation 7d5c6cc284f02de9… (all of the seat's roots in one cut). By AI agents, Wed Nov 11 2026. No macro, syntax, notation, axiom, sorry.
-/
import Derived.Test.YtpbfbgkiamfodaaChecked
import GoSem.Claim
import GoSem.ClaimJoined
import GoSem.ClaimMapViews
import Derived.JoinedTies
import Derived.KernelRfl
namespace Go.Proofs.Ytpbfbgkiamfodaa
/- THE CELL 'sum', in the pinned program and in every row, IS THE sha256 OF THE DUMP (.gsa) THAT YtpbfbgkiamfodaaProg.lean LOADS. Nothing in Lean hashes anything: it is a label: what it is worth is what the hold of that sum in a sandbox is worth. -/
noncomputable def Try.pinned : Pinned := { name := "ytpbfbgkiamfodaa", sum := "7d5c6cc284f02de92ae6172b20764f59f0b8e25b4e78c3e07f24c50bf1571430", checked := Try.checked }
namespace Rows
def none {H : Type} : Left H := { results := [], args := [] }

/-- 'propylonlaw11.DblSplits': WHATEVER THE INPUT: true; the input reads as it did. -/
def dblSplitsSpec : ChangeSpec := { name := "dblSplits", fn := fun _ => fun
  | [d] => { results := [.lit (.bool true)], args := [d] }
  | _ => none }
def dblSplitsRow : OpenClaim := { program := "ytpbfbgkiamfodaa", sum := "7d5c6cc284f02de92ae6172b20764f59f0b8e25b4e78c3e07f24c50bf1571430", func := "propylon/propylonlaw11.DblSplits", spec := "dblSplits", apart := false }
def DblSplitsSaid : Prop := dblSplitsRow.holds Try.pinned (OpenSpec.ofChange dblSplitsSpec)

/-- ITS FALSE NEIGHBOUR: 'it returns false'. Refute it at one input. -/
def dblSplitsWrong : ChangeSpec := { name := "dblSplits", fn := fun _ => fun
  | [d] => { results := [.lit (.bool false)], args := [d] }
  | _ => none }
def DblSplitsWrongFalsely : Prop := dblSplitsRow.holds Try.pinned (OpenSpec.ofChange dblSplitsWrong)

/-- 'propylonlaw11.DblCmps': WHATEVER THE INPUT: true; the input reads as it did. -/
def dblCmpsSpec : ChangeSpec := { name := "dblCmps", fn := fun _ => fun
  | [d1, d2] => { results := [.lit (.bool true)], args := [d1, d2] }
  | _ => none }
def dblCmpsRow : OpenClaim := { program := "ytpbfbgkiamfodaa", sum := "7d5c6cc284f02de92ae6172b20764f59f0b8e25b4e78c3e07f24c50bf1571430", func := "propylon/propylonlaw11.DblCmps", spec := "dblCmps", apart := false }
def DblCmpsSaid : Prop := dblCmpsRow.holds Try.pinned (OpenSpec.ofChange dblCmpsSpec)

/-- ITS FALSE NEIGHBOUR: 'it returns false'. Refute it at one input. -/
def dblCmpsWrong : ChangeSpec := { name := "dblCmps", fn := fun _ => fun
  | [d1, d2] => { results := [.lit (.bool false)], args := [d1, d2] }
  | _ => none }
def DblCmpsWrongFalsely : Prop := dblCmpsRow.holds Try.pinned (OpenSpec.ofChange dblCmpsWrong)

/-- 'propylonlaw11.DblOrder': WHATEVER THE INPUT: true; the input reads as it did. -/
def dblOrderSpec : ChangeSpec := { name := "dblOrder", fn := fun _ => fun
  | [d1, d2, d3] => { results := [.lit (.bool true)], args := [d1, d2, d3] }
  | _ => none }
def dblOrderRow : OpenClaim := { program := "ytpbfbgkiamfodaa", sum := "7d5c6cc284f02de92ae6172b20764f59f0b8e25b4e78c3e07f24c50bf1571430", func := "propylon/propylonlaw11.DblOrder", spec := "dblOrder", apart := false }
def DblOrderSaid : Prop := dblOrderRow.holds Try.pinned (OpenSpec.ofChange dblOrderSpec)

/-- ITS FALSE NEIGHBOUR: 'it returns false'. Refute it at one input. -/
def dblOrderWrong : ChangeSpec := { name := "dblOrder", fn := fun _ => fun
  | [d1, d2, d3] => { results := [.lit (.bool false)], args := [d1, d2, d3] }
  | _ => none }
def DblOrderWrongFalsely : Prop := dblOrderRow.holds Try.pinned (OpenSpec.ofChange dblOrderWrong)

/-- 'propylonlaw14.DeciJoins': WHATEVER THE INPUT: true; the input reads as it did. -/
def deciJoinsSpec : ChangeSpec := { name := "deciJoins", fn := fun _ => fun
  | [d1, d2, d3] => { results := [.lit (.bool true)], args := [d1, d2, d3] }
  | _ => none }
def deciJoinsRow : OpenClaim := { program := "ytpbfbgkiamfodaa", sum := "7d5c6cc284f02de92ae6172b20764f59f0b8e25b4e78c3e07f24c50bf1571430", func := "propylon/propylonlaw14.DeciJoins", spec := "deciJoins", apart := false }
def DeciJoinsSaid : Prop := deciJoinsRow.holds Try.pinned (OpenSpec.ofChange deciJoinsSpec)

/-- ITS FALSE NEIGHBOUR: 'it returns false'. Refute it at one input. -/
def deciJoinsWrong : ChangeSpec := { name := "deciJoins", fn := fun _ => fun
  | [d1, d2, d3] => { results := [.lit (.bool false)], args := [d1, d2, d3] }
  | _ => none }
def DeciJoinsWrongFalsely : Prop := deciJoinsRow.holds Try.pinned (OpenSpec.ofChange deciJoinsWrong)

/-- 'propylonlaw14.DeciSplits': WHATEVER THE INPUT: true; the input reads as it did. -/
def deciSplitsSpec : ChangeSpec := { name := "deciSplits", fn := fun _ => fun
  | [d1, d2] => { results := [.lit (.bool true)], args := [d1, d2] }
  | _ => none }
def deciSplitsRow : OpenClaim := { program := "ytpbfbgkiamfodaa", sum := "7d5c6cc284f02de92ae6172b20764f59f0b8e25b4e78c3e07f24c50bf1571430", func := "propylon/propylonlaw14.DeciSplits", spec := "deciSplits", apart := false }
def DeciSplitsSaid : Prop := deciSplitsRow.holds Try.pinned (OpenSpec.ofChange deciSplitsSpec)

/-- ITS FALSE NEIGHBOUR: 'it returns false'. Refute it at one input. -/
def deciSplitsWrong : ChangeSpec := { name := "deciSplits", fn := fun _ => fun
  | [d1, d2] => { results := [.lit (.bool false)], args := [d1, d2] }
  | _ => none }
def DeciSplitsWrongFalsely : Prop := deciSplitsRow.holds Try.pinned (OpenSpec.ofChange deciSplitsWrong)

/-- 'propylonlaw14.DeciPlains': WHATEVER THE INPUT: true; the input reads as it did. -/
def deciPlainsSpec : ChangeSpec := { name := "deciPlains", fn := fun _ => fun
  | [d1, d2] => { results := [.lit (.bool true)], args := [d1, d2] }
  | _ => none }
def deciPlainsRow : OpenClaim := { program := "ytpbfbgkiamfodaa", sum := "7d5c6cc284f02de92ae6172b20764f59f0b8e25b4e78c3e07f24c50bf1571430", func := "propylon/propylonlaw14.DeciPlains", spec := "deciPlains", apart := false }
def DeciPlainsSaid : Prop := deciPlainsRow.holds Try.pinned (OpenSpec.ofChange deciPlainsSpec)

/-- ITS FALSE NEIGHBOUR: 'it returns false'. Refute it at one input. -/
def deciPlainsWrong : ChangeSpec := { name := "deciPlains", fn := fun _ => fun
  | [d1, d2] => { results := [.lit (.bool false)], args := [d1, d2] }
  | _ => none }
def DeciPlainsWrongFalsely : Prop := deciPlainsRow.holds Try.pinned (OpenSpec.ofChange deciPlainsWrong)

/-- 'propylonlaw14.DeciBack': WHATEVER THE INPUT: true; the input reads as it did. -/
def deciBackSpec : ChangeSpec := { name := "deciBack", fn := fun _ => fun
  | [d1, d2, d3] => { results := [.lit (.bool true)], args := [d1, d2, d3] }
  | _ => none }
def deciBackRow : OpenClaim := { program := "ytpbfbgkiamfodaa", sum := "7d5c6cc284f02de92ae6172b20764f59f0b8e25b4e78c3e07f24c50bf1571430", func := "propylon/propylonlaw14.DeciBack", spec := "deciBack", apart := false }
def DeciBackSaid : Prop := deciBackRow.holds Try.pinned (OpenSpec.ofChange deciBackSpec)

/-- ITS FALSE NEIGHBOUR: 'it returns false'. Refute it at one input. -/
def deciBackWrong : ChangeSpec := { name := "deciBack", fn := fun _ => fun
  | [d1, d2, d3] => { results := [.lit (.bool false)], args := [d1, d2, d3] }
  | _ => none }
def DeciBackWrongFalsely : Prop := deciBackRow.holds Try.pinned (OpenSpec.ofChange deciBackWrong)

/-- 'propylonlaw14.DeciAgain': WHATEVER THE INPUT: true; the input reads as it did. -/
def deciAgainSpec : ChangeSpec := { name := "deciAgain", fn := fun _ => fun
  | [d1, d2] => { results := [.lit (.bool true)], args := [d1, d2] }
  | _ => none }
def deciAgainRow : OpenClaim := { program := "ytpbfbgkiamfodaa", sum := "7d5c6cc284f02de92ae6172b20764f59f0b8e25b4e78c3e07f24c50bf1571430", func := "propylon/propylonlaw14.DeciAgain", spec := "deciAgain", apart := false }
def DeciAgainSaid : Prop := deciAgainRow.holds Try.pinned (OpenSpec.ofChange deciAgainSpec)

/-- ITS FALSE NEIGHBOUR: 'it returns false'. Refute it at one input. -/
def deciAgainWrong : ChangeSpec := { name := "deciAgain", fn := fun _ => fun
  | [d1, d2] => { results := [.lit (.bool false)], args := [d1, d2] }
  | _ => none }
def DeciAgainWrongFalsely : Prop := deciAgainRow.holds Try.pinned (OpenSpec.ofChange deciAgainWrong)

/- THE SECOND FORM. 'bulk': how many values and letters a reading holds, each counted each time it is reached (what is shared counts as often as it is met; a slice's spare places count too). A statement '..UptoSaid' is the law's where the arguments, and the package variables that the reading takes, are together of bulk at most 1048576: NARROWER than '..Said'. Prove '..Said' where nothing that the law and all that it calls make is longer than what came in: it says more and counts as full. Else prove '..UptoSaid'. A law counts once. -/
mutual
def uptoBulk {H : Type} : DataW H → Nat
  | .lit (.string bytes) => bytes.length + 1
  | .lit _ => 1
  | .nil => 1
  | .ptr d => uptoBulk d + 1
  | .slice elems spare => uptoBulkAll elems + uptoBulkAll spare + 1
  | .agg parts => uptoBulkAll parts + 1
  | .iface _ d => uptoBulk d + 1
  | .map entries => uptoBulkEntries entries + 1
  | .held _ => 1
def uptoBulkAll {H : Type} : List (DataW H) → Nat
  | [] => 0
  | d :: r => uptoBulk d + uptoBulkAll r
def uptoBulkEntries {H : Type} : List (Lit × DataW H) → Nat
  | [] => 0
  | x :: r => uptoBulkEntry x + uptoBulkEntries r
def uptoBulkEntry {H : Type} : Lit × DataW H → Nat
  | (.string bytes, d) => bytes.length + uptoBulk d + 1
  | (_, d) => uptoBulk d + 1
 end
def uptoSmall : (H : Type) → List (DataW H) → Bool := fun _ ds => decide (uptoBulkAll ds ≤ 1048576)
def OpenSpec.upto (s : _root_.Go.ChangeSpec) : _root_.Go.OpenSpec := { _root_.Go.OpenSpec.ofChange s with cond := some uptoSmall }

/-- 'propylonlaw11.DblSplits', WHERE WHAT IT READS IS OF BULK AT MOST 1048576: true; the input reads as it did. -/
def dblSplitsUptoRow : OpenClaim := { program := "ytpbfbgkiamfodaa", sum := "7d5c6cc284f02de92ae6172b20764f59f0b8e25b4e78c3e07f24c50bf1571430", func := "propylon/propylonlaw11.DblSplits", spec := "dblSplits", apart := false, narrowed := true }
def DblSplitsUptoSaid : Prop := dblSplitsUptoRow.holds Try.pinned (OpenSpec.upto dblSplitsSpec)

/-- 'propylonlaw11.DblCmps', WHERE WHAT IT READS IS OF BULK AT MOST 1048576: true; the input reads as it did. -/
def dblCmpsUptoRow : OpenClaim := { program := "ytpbfbgkiamfodaa", sum := "7d5c6cc284f02de92ae6172b20764f59f0b8e25b4e78c3e07f24c50bf1571430", func := "propylon/propylonlaw11.DblCmps", spec := "dblCmps", apart := false, narrowed := true }
def DblCmpsUptoSaid : Prop := dblCmpsUptoRow.holds Try.pinned (OpenSpec.upto dblCmpsSpec)

/-- 'propylonlaw11.DblOrder', WHERE WHAT IT READS IS OF BULK AT MOST 1048576: true; the input reads as it did. -/
def dblOrderUptoRow : OpenClaim := { program := "ytpbfbgkiamfodaa", sum := "7d5c6cc284f02de92ae6172b20764f59f0b8e25b4e78c3e07f24c50bf1571430", func := "propylon/propylonlaw11.DblOrder", spec := "dblOrder", apart := false, narrowed := true }
def DblOrderUptoSaid : Prop := dblOrderUptoRow.holds Try.pinned (OpenSpec.upto dblOrderSpec)

/-- 'propylonlaw14.DeciJoins', WHERE WHAT IT READS IS OF BULK AT MOST 1048576: true; the input reads as it did. -/
def deciJoinsUptoRow : OpenClaim := { program := "ytpbfbgkiamfodaa", sum := "7d5c6cc284f02de92ae6172b20764f59f0b8e25b4e78c3e07f24c50bf1571430", func := "propylon/propylonlaw14.DeciJoins", spec := "deciJoins", apart := false, narrowed := true }
def DeciJoinsUptoSaid : Prop := deciJoinsUptoRow.holds Try.pinned (OpenSpec.upto deciJoinsSpec)

/-- 'propylonlaw14.DeciSplits', WHERE WHAT IT READS IS OF BULK AT MOST 1048576: true; the input reads as it did. -/
def deciSplitsUptoRow : OpenClaim := { program := "ytpbfbgkiamfodaa", sum := "7d5c6cc284f02de92ae6172b20764f59f0b8e25b4e78c3e07f24c50bf1571430", func := "propylon/propylonlaw14.DeciSplits", spec := "deciSplits", apart := false, narrowed := true }
def DeciSplitsUptoSaid : Prop := deciSplitsUptoRow.holds Try.pinned (OpenSpec.upto deciSplitsSpec)

/-- 'propylonlaw14.DeciPlains', WHERE WHAT IT READS IS OF BULK AT MOST 1048576: true; the input reads as it did. -/
def deciPlainsUptoRow : OpenClaim := { program := "ytpbfbgkiamfodaa", sum := "7d5c6cc284f02de92ae6172b20764f59f0b8e25b4e78c3e07f24c50bf1571430", func := "propylon/propylonlaw14.DeciPlains", spec := "deciPlains", apart := false, narrowed := true }
def DeciPlainsUptoSaid : Prop := deciPlainsUptoRow.holds Try.pinned (OpenSpec.upto deciPlainsSpec)

/-- 'propylonlaw14.DeciBack', WHERE WHAT IT READS IS OF BULK AT MOST 1048576: true; the input reads as it did. -/
def deciBackUptoRow : OpenClaim := { program := "ytpbfbgkiamfodaa", sum := "7d5c6cc284f02de92ae6172b20764f59f0b8e25b4e78c3e07f24c50bf1571430", func := "propylon/propylonlaw14.DeciBack", spec := "deciBack", apart := false, narrowed := true }
def DeciBackUptoSaid : Prop := deciBackUptoRow.holds Try.pinned (OpenSpec.upto deciBackSpec)

/-- 'propylonlaw14.DeciAgain', WHERE WHAT IT READS IS OF BULK AT MOST 1048576: true; the input reads as it did. -/
def deciAgainUptoRow : OpenClaim := { program := "ytpbfbgkiamfodaa", sum := "7d5c6cc284f02de92ae6172b20764f59f0b8e25b4e78c3e07f24c50bf1571430", func := "propylon/propylonlaw14.DeciAgain", spec := "deciAgain", apart := false, narrowed := true }
def DeciAgainUptoSaid : Prop := deciAgainUptoRow.holds Try.pinned (OpenSpec.upto deciAgainSpec)

end Rows
end Go.Proofs.Ytpbfbgkiamfodaa
