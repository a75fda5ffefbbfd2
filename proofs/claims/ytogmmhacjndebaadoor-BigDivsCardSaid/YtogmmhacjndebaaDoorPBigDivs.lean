/- BigDivs: the tied card: for every input the law returns true, and each argument reads as it read before. Condition: the listed variables hold what the program's text lays (tied). (The frame follows the kit's proof-skeleton and its worked cards.) -/
import Derived.Test.YtogmmhacjndebaaDoorRows
import Derived.Test.YtogmmhacjndebaaDoorCards
import Derived.Test.YtogmmhacjndebaaDoorTie
import Derived.WalkKit
import Derived.ProofKit
import Derived.OpenShut
import Derived.LaidMore
import Derived.Lib.SmallJoins
import Derived.Lib.LaidTab
import Derived.LaidSub
import Derived.Stop.Joined
import Derived.SevenTiedAt
import Derived.Test.YtogmmhacjndebaaDoorBack
import Derived.Test.YtogmmhacjndebaaDoorN30
namespace Go.Proofs.YtogmmhacjndebaaDoor.bigDivs
open Go.ChangeShapes Go.WideShapes Go.ChangeAt Go.WideMaps Go.WideElems Go.RowKit
set_option linter.unusedVariables false
set_option linter.unusedSimpArgs false

theorem own : ownKnob Tryd.prog.godebug = none := by kernel_rfl
theorem laidOut : laidOutB Tryd.prog = true := by kernel_rfl
theorem cells31 : Tryd.prog.cellsOf 31 = 1 := by kernel_rfl
theorem reads : ∀ t ∈ Tryd.f3.params.toList, Tryd.prog.readableRec t = true ∧ t < Tryd.prog.types.size := by
  have h : Tryd.f3.params.toList.all (fun t => Tryd.prog.readableRec t && decide (t < Tryd.prog.types.size)) = true := by kernel_rfl
  intro t ht
  have h1 := List.all_eq_true.1 h t ht
  rw [Bool.and_eq_true, decide_eq_true_eq] at h1
  exact h1

theorem door_met (os : Os) (args : Array Value) : laidMetH Tryd.prog Rows.bigDivsRow.laid ((World.doorLaid Tryd.prog 24 os).forCall (fun _ _ => 0) ⟨#[], args, []⟩).memory :=
  laidMetH_of_parts3 (fuel := 8) (laidMet_of_run' 8 (by kernel_rfl) (by kernel_rfl)) (by kernel_rfl) (by kernel_rfl)
theorem gT : Tryd.prog.globalNamed "internal/strconv.uint64pow10" = some 1 := by kernel_rfl
theorem gTType : (Tryd.prog.globals[1]?).map (·.type) = some 104 := by kernel_rfl
theorem cellsT : Tryd.prog.cellsOf 104 = 20 := by kernel_rfl
theorem cellsE : Tryd.prog.cellsOf 37 = 1 := by kernel_rfl
theorem laid_eq : (Rows.bigDivsRow.laid.filter fun x => x.1 == "internal/strconv.uint64pow10") = [("internal/strconv.uint64pow10", Lib.tabData .u64 Lib.pow10Tab)] := by kernel_rfl
theorem tab_at {W : World} (h : laidMetH Tryd.prog Rows.bigDivsRow.laid W) : PowTab W := by
  have h2 := laidMetH.filter (fun x => x.1 == "internal/strconv.uint64pow10") h
  rw [laid_eq] at h2
  rw [MakeChecks.laidMetH_plain _ _ _ (by kernel_rfl)] at h2
  exact Lib.tabIs_of_head gT gTType Tryd.underlying104 Tryd.underlying37 cellsE cellsT h2

set_option maxRecDepth 100000 in
theorem lifted (os : Os) (started : os.Started) (H : Type) (enc : TypeId × Value → H) :
    ReturnsInHanded {} Tryd.checked os 3 .any (fun w args => (Rows.bigDivsSpec.pre enc Tryd.prog Tryd.f3 Rows.bigDivsRow.domain false w args ∧ laidMetH Tryd.prog Rows.bigDivsRow.laid w) ∧ sizedMet enc Tryd.prog Tryd.f3 (OpenSpec.ofChange Rows.bigDivsSpec) false w args)
      (Rows.bigDivsSpec.post enc Tryd.prog Tryd.f3 false true false false) := by
  refine returnsInHanded_of_change_and (C := Tryd.checked) (X := fun w _ => laidMetH Tryd.prog Rows.bigDivsRow.laid w) (fun _ _ _ hh h => h.of_heap hh) own started (by kernel_rfl) Tryd.func3
    (ChangeSpec.witness_shaped (enc := enc) (C := Tryd.checked) (os := os) (X := fun w _ => laidMetH Tryd.prog Rows.bigDivsRow.laid w) false (World.doorLaid Tryd.prog 24 os) #[.slice none 0 0, .slice none 0 0] 8 rfl (World.shaped_of_RefB (by kernel_rfl) (by kernel_rfl)) (by kernel_rfl) (by kernel_rfl) (by kernel_rfl) (door_met os _)) ?_
  intro W base args ds gs before hval0 hW hcnd _ hL _
  have hval : ∀ (j : Nat) t v, Tryd.f3.params[j]? = some t → args[j]? = some v → Value.okWide Tryd.prog W .any base t v := hval0
  have hW' := hW
  obtain ⟨p, q, hA0, hV, rfl, hfz, hnd⟩ := hW
  have hA : DataW.TrodAll enc Tryd.prog W 0 (fun _ => true) true Tryd.f3.params.toList args.toList ds p := hA0
  have hAk := hA
  rw [Tryd.params3] at hA hval
  obtain ⟨v0, vs0, d0, ds0, p0, q0, hargs, rfl, rfl, h0, r0⟩ := trodAll_cons hA
  obtain ⟨v1, vs1, d1, ds1, p1, q1, rfl, rfl, rfl, h1, r1⟩ := trodAll_cons r0
  obtain ⟨rfl, rfl, rfl⟩ := trodAll_nil r1
  obtain rfl : args = #[v0, v1] := by cases args; simp_all
  obtain ⟨rfl, rfl⟩ := trodVars_none hV
  obtain ⟨ad0, n0, c0, f0, rfl, hle0, hmx0, hS0, wf0⟩ := ints_open Tryd.underlying23 Tryd.underlying31 cells31 (hval 0 23 v0 rfl rfl) h0
  obtain ⟨ad1, n1, c1, f1, rfl, hle1, hmx1, hS1, wf1⟩ := ints_open Tryd.underlying23 Tryd.underlying31 cells31 (hval 1 23 v1 rfl rfl) h1
  clear hA0 hval0
  have hT := tab_at hL
  refine (bigDivs_walk ad0 n0 c0 f0 ad1 n1 c1 f1 W hS0 (Nat.le_trans hle0 hmx0) (fun i hi => bounds_u16 (wf0 i hi)) hS1 (Nat.le_trans hle1 hmx1) (fun i hi => bounds_u16 (wf1 i hi)) hT).mono fun e W' ⟨he, hg⟩ => ?_
  subst he
  exact ⟨_, rfl, post_of_under (pv := []) hW' (fun _ _ _ => (trodAll_cons_mk (shut_bool Tryd.underlying4 _) trodAll_mk0)) (fun sp hsp => back_all laidOut hg reads hAk (fun x hx => hW'.lt x (List.mem_append_left _ hx)) (fun x hx => hsp x (List.mem_append_left _ hx))) (fun _ _ => rfl) rfl (hg.frame _)⟩

theorem over : Rows.bigDivsRow.holds Tryd.pinned (OpenSpec.ofChange Rows.bigDivsSpec) :=
  OpenClaim.holds_of_wide 3 Tryd.f3 rfl rfl rfl rfl rfl rfl rfl ⟨rfl, rfl, rfl, rfl, rfl⟩ rfl rfl rfl rfl rfl (by kernel_rfl) Tryd.func3 (by kernel_rfl)
    (of_decide_eq_true (by kernel_rfl)) (by unfold Func.isWrapper; first | (rw [if_pos (by decide +kernel)]; kernel_rfl) | (rw [if_neg (by decide +kernel)]; exact ⟨rfl, rfl⟩))
    (fun os started H enc _ => lifted os started H enc)

theorem proved : Rows.BigDivsCardSaid :=
  Claim7.holds_tied_plain_at .later [] [.data, .data, .data] true (true, "2d83fb5a99816b8b3d74433e07a7765f1dba5a418a6dc08850fc854480244311") false
    over (fun _ h => by cases h) (by kernel_rfl) (fun _ h => by cases h) bigDivs_row_tie rfl ⟨rfl, rfl⟩ (by kernel_rfl) rfl
    (fun f fn hf hfn => by
      obtain rfl : f = 3 := Option.some.inj ((show Tryd.prog.funcNamed "propylon/propylonlaw9.BigDivs" = some 3 by kernel_rfl).symm.trans hf) |>.symm
      obtain rfl : fn = Tryd.f3 := (Option.some.inj (Tryd.func3.symm.trans hfn)).symm
      exact ⟨by kernel_rfl, fun j t ht => by
        rw [Tryd.params3] at ht
        have hm : t ∈ [23, 23] := by simpa using Array.mem_of_getElem? ht
        have hall : ([23, 23].all fun u => !Tryd.prog.wantsStandIn u) = true := by kernel_rfl
        exact (show Tryd.prog.wantsStandIn t = false by simpa using List.all_eq_true.1 hall t hm)⟩)
    (by kernel_rfl)
end Go.Proofs.YtogmmhacjndebaaDoor.bigDivs
