/- WholeGoes: the tied card: for every input the law returns true, and each argument reads as it read before. Condition: the listed variables hold what the program's text lays (tied). (The frame follows the kit's proof-skeleton and its worked cards.) -/
import Derived.Test.YtdfpknomhambcaaDoorRows
import Derived.Test.YtdfpknomhambcaaDoorCards
import Derived.Test.YtdfpknomhambcaaDoorTie
import Derived.WalkKit
import Derived.ProofKit
import Derived.OpenShut
import Derived.LaidMore
import Derived.Lib.SmallJoins
import Derived.Lib.LaidTab
import Derived.LaidSub
import Derived.Stop.Joined
import Derived.SevenTiedAt
import Derived.Test.YtdfpknomhambcaaDoorPost
import Derived.Test.YtdfpknomhambcaaDoorW11
namespace Go.Proofs.YtdfpknomhambcaaDoor.wholeGoes
open Go.ChangeShapes Go.WideShapes Go.ChangeAt Go.WideMaps Go.WideElems Go.RowKit
set_option linter.unusedVariables false
set_option linter.unusedSimpArgs false

theorem own : ownKnob Tryd.prog.godebug = none := by kernel_rfl


theorem walk (a0 : ByteArray) (a1 : Int) (a2 : Int) (w0 : a0.size ≤ maxLen) (w1 : (Lit.int .u64 a1).wf = true) (w2 : (Lit.int .i64 a2).wf = true) (w : World) (hT : Laid10 w) :
    Calls Tryd.prog 10 #[.string a0, .int .u64 a1, .int .i64 a2] w fun e w' => e = .returned (.bool true) ∧ Below w.heap.size w w' := by
  have ba1 := bounds_u64 w1
  have ba2 := bounds_i64 w2
  exact wholeGoes_all a0 a1 a2 w0 (by omega) (by omega) (by omega) (by omega) w hT

theorem door_met (os : Os) (args : Array Value) : laidMetH Tryd.prog Rows.wholeGoesRow.laid ((World.doorLaid Tryd.prog 62 os).forCall (fun _ _ => 0) ⟨#[], args, []⟩).memory :=
  laidMetH_of_parts3 (fuel := 8) (laidMet_of_run' 8 (by kernel_rfl) (by kernel_rfl)) (by kernel_rfl) (by kernel_rfl)
theorem gT : Tryd.prog.globalNamed "internal/strconv.uint64pow10" = some 0 := by kernel_rfl
theorem gTType : (Tryd.prog.globals[0]?).map (·.type) = some 68 := by kernel_rfl
theorem cellsT : Tryd.prog.cellsOf 68 = 20 := by kernel_rfl
theorem cellsE : Tryd.prog.cellsOf 33 = 1 := by kernel_rfl
theorem laid_eq : (Rows.wholeGoesRow.laid.filter fun x => x.1 == "internal/strconv.uint64pow10") = [("internal/strconv.uint64pow10", Lib.tabData .u64 Lib.pow10Tab)] := by kernel_rfl
theorem tab_at {W : World} (h : laidMetH Tryd.prog Rows.wholeGoesRow.laid W) : PowTab W := by
  have h2 := laidMetH.filter (fun x => x.1 == "internal/strconv.uint64pow10") h
  rw [laid_eq] at h2
  rw [MakeChecks.laidMetH_plain _ _ _ (by kernel_rfl)] at h2
  exact Lib.tabIs_of_head gT gTType Tryd.underlying68 Tryd.underlying33 cellsE cellsT h2
theorem err_of {W : World} {n nm : String} {d : DataW Unit} {g te : Nat} {ms : Array (String × TypeId)} (hn : Tryd.prog.globalNamed n = some g) (hty : (Tryd.prog.globals[g]?).map (·.type) = some te) (hte : Tryd.prog.underlying te = some (.interface ms))
    (h : laidMet Tryd.prog [(n, .iface nm d)] W) : ErrAt W g := by
  obtain ⟨ps, ⟨g', t', cs, fuel, p, q, hg', ht', hvar, hd, _, _⟩, _⟩ := h
  obtain rfl := Option.some.inj (hn.symm.trans hg')
  obtain rfl := Option.some.inj (hty.symm.trans ht')
  obtain ⟨f2, u, v, hcs, _, _⟩ := iface_of_trod hte hd
  have hc := World.var?_cell hg' hvar 0
  refine ⟨.iface u v, ?_, Or.inr ⟨u, v, rfl⟩⟩
  rw [hc, ← Array.getElem?_toList, hcs]
  rfl
theorem eq_s : (Rows.wholeGoesRow.laid.filter fun x => x.1 == "strconv.ErrSyntax") = [("strconv.ErrSyntax", Rows.laid_strconv_ErrSyntax)] := by kernel_rfl
theorem eq_r : (Rows.wholeGoesRow.laid.filter fun x => x.1 == "strconv.ErrRange") = [("strconv.ErrRange", Rows.laid_strconv_ErrRange)] := by kernel_rfl
theorem gS : Tryd.prog.globalNamed "strconv.ErrSyntax" = some 1 := by kernel_rfl
theorem gR : Tryd.prog.globalNamed "strconv.ErrRange" = some 2 := by kernel_rfl
theorem gSType : (Tryd.prog.globals[1]?).map (·.type) = some 46 := by kernel_rfl
theorem gRType : (Tryd.prog.globals[2]?).map (·.type) = some 46 := by kernel_rfl
theorem laid_at {W : World} (h : laidMetH Tryd.prog Rows.wholeGoesRow.laid W) : Laid10 W := by
  refine ⟨tab_at h, ?_, ?_⟩
  · have h2 := laidMetH.filter (fun x => x.1 == "strconv.ErrSyntax") h
    rw [eq_s] at h2
    rw [MakeChecks.laidMetH_plain _ _ _ (by kernel_rfl)] at h2
    exact err_of gS gSType Tryd.underlying46 h2
  · have h2 := laidMetH.filter (fun x => x.1 == "strconv.ErrRange") h
    rw [eq_r] at h2
    rw [MakeChecks.laidMetH_plain _ _ _ (by kernel_rfl)] at h2
    exact err_of gR gRType Tryd.underlying46 h2

set_option maxRecDepth 100000 in
theorem lifted (os : Os) (started : os.Started) (H : Type) (enc : TypeId × Value → H) :
    ReturnsInHanded {} Tryd.checked os 10 .any (fun w args => (Rows.wholeGoesSpec.pre enc Tryd.prog Tryd.f10 Rows.wholeGoesRow.domain false w args ∧ laidMetH Tryd.prog Rows.wholeGoesRow.laid w) ∧ sizedMet enc Tryd.prog Tryd.f10 (OpenSpec.ofChange Rows.wholeGoesSpec) false w args)
      (Rows.wholeGoesSpec.post enc Tryd.prog Tryd.f10 false true false false) := by
  refine returnsInHanded_of_change_and (C := Tryd.checked) (X := fun w _ => laidMetH Tryd.prog Rows.wholeGoesRow.laid w) (fun _ _ _ hh h => h.of_heap hh) own started (by kernel_rfl) Tryd.func10
    (ChangeSpec.witness_shaped (enc := enc) (C := Tryd.checked) (os := os) (X := fun w _ => laidMetH Tryd.prog Rows.wholeGoesRow.laid w) false (World.doorLaid Tryd.prog 62 os) #[.string { data := #[] }, .int .u64 0, .int .i64 0] 8 rfl (World.shaped_of_RefB (by kernel_rfl) (by kernel_rfl)) (by kernel_rfl) (by kernel_rfl) (by kernel_rfl) (door_met os _)) ?_
  intro W base args ds gs before hval0 hW hcnd _ hL _
  have hval : ∀ (j : Nat) t v, Tryd.f10.params[j]? = some t → args[j]? = some v → Value.okWide Tryd.prog W .any base t v := hval0
  have hW' := hW
  obtain ⟨p, q, hA0, hV, rfl, hfz, hnd⟩ := hW
  have hA : DataW.TrodAll enc Tryd.prog W 0 (fun _ => true) true Tryd.f10.params.toList args.toList ds p := hA0
  rw [Tryd.params10] at hA hval
  obtain ⟨v0, vs0, d0, ds0, p0, q0, hargs, rfl, rfl, h0, r0⟩ := trodAll_cons hA
  obtain ⟨v1, vs1, d1, ds1, p1, q1, rfl, rfl, rfl, h1, r1⟩ := trodAll_cons r0
  obtain ⟨v2, vs2, d2, ds2, p2, q2, rfl, rfl, rfl, h2, r2⟩ := trodAll_cons r1
  obtain ⟨rfl, rfl, rfl⟩ := trodAll_nil r2
  obtain rfl : args = #[v0, v1, v2] := by cases args; simp_all
  obtain ⟨rfl, rfl⟩ := trodVars_none hV
  obtain ⟨a0, rfl, rfl, rfl, w0⟩ := Go.ChangeMaps.open_string Tryd.underlying9 (hval 0 9 v0 rfl rfl) h0
  obtain ⟨a1, rfl, rfl, rfl, w1⟩ := open_int Tryd.underlying33 (hval 1 33 v1 rfl rfl) h1
  obtain ⟨a2, rfl, rfl, rfl, w2⟩ := open_int Tryd.underlying3 (hval 2 3 v2 rfl rfl) h2
  clear hA0 hval0
  simp only [List.append_nil] at hW'
  have hT := laid_at hL
  refine (walk a0 a1 a2 w0 w1 w2 W hT).mono fun e W' ⟨he, hg⟩ => ?_
  subst he
  exact ⟨_, rfl, post_of_under (pa := []) (pv := []) hW' (fun _ _ _ => (trodAll_cons_mk (shut_bool Tryd.underlying4 _) trodAll_mk0)) (fun sp _ => (trodAll_cons_mk (Go.ChangeMaps.shut_string Tryd.underlying9 w0) (trodAll_cons_mk (shut_int Tryd.underlying33 w1) (trodAll_cons_mk (shut_int Tryd.underlying3 w2) trodAll_mk0)))) (fun _ _ => rfl) rfl (hg.frame _)⟩

theorem over : Rows.wholeGoesRow.holds Tryd.pinned (OpenSpec.ofChange Rows.wholeGoesSpec) :=
  OpenClaim.holds_of_wide 10 Tryd.f10 rfl rfl rfl rfl rfl rfl rfl ⟨rfl, rfl, rfl, rfl, rfl⟩ rfl rfl rfl rfl rfl (by kernel_rfl) Tryd.func10 (by kernel_rfl)
    (of_decide_eq_true (by kernel_rfl)) (by unfold Func.isWrapper; first | (rw [if_pos (by decide +kernel)]; kernel_rfl) | (rw [if_neg (by decide +kernel)]; exact ⟨rfl, rfl⟩))
    (fun os started H enc _ => lifted os started H enc)

theorem proved : Rows.WholeGoesCardSaid :=
  Claim7.holds_tied_plain_at .later [] [.data, .data, .data, .sentinel, .sentinel] true (true, "6b2b2f76d564122e4fc5387103a5a9325d5dc34fedbc24c7b01f8c486ea457a5") true
    over (fun _ h => by cases h) (by kernel_rfl) (fun _ h => by cases h) wholeGoes_row_tie rfl ⟨rfl, rfl⟩ (by kernel_rfl) rfl
    (fun f fn hf hfn => by
      obtain rfl : f = 10 := Option.some.inj ((show Tryd.prog.funcNamed "propylon/propylonlaw10.WholeGoes" = some 10 by kernel_rfl).symm.trans hf) |>.symm
      obtain rfl : fn = Tryd.f10 := (Option.some.inj (Tryd.func10.symm.trans hfn)).symm
      exact ⟨by kernel_rfl, fun j t ht => by
        rw [Tryd.params10] at ht
        have hm : t ∈ [9, 33, 3] := by simpa using Array.mem_of_getElem? ht
        have hall : ([9, 33, 3].all fun u => !Tryd.prog.wantsStandIn u) = true := by kernel_rfl
        exact (show Tryd.prog.wantsStandIn t = false by simpa using List.all_eq_true.1 hall t hm)⟩)
    (by kernel_rfl)
end Go.Proofs.YtdfpknomhambcaaDoor.wholeGoes
