/- WideLaws: the tied card: for every input the law returns true, and each argument reads as it read before. Condition: the listed variables hold what the program's text lays (tied). (The frame follows the kit's proof-skeleton and its worked cards.) -/
import Derived.Test.YtgkgacmphafieaaDoorRows
import Derived.Test.YtgkgacmphafieaaDoorCards
import Derived.Test.YtgkgacmphafieaaDoorTie
import Derived.WalkKit
import Derived.ProofKit
import Derived.OpenShut
import Derived.LaidMore
import Derived.Lib.SmallJoins
import Derived.Lib.LaidTab
import Derived.LaidSub
import Derived.Lay
import Derived.Stop.Joined
import Derived.SevenTiedAt
import Derived.Test.YtgkgacmphafieaaDoorPost
import Derived.Test.YtgkgacmphafieaaDoorWd11
namespace Go.Proofs.YtgkgacmphafieaaDoor.wideLaws
open Go.ChangeShapes Go.WideShapes Go.ChangeAt Go.WideMaps Go.WideElems Go.RowKit
set_option linter.unusedVariables false
set_option linter.unusedSimpArgs false

theorem own : ownKnob Tryd.prog.godebug = none := by kernel_rfl
theorem cells35 : Tryd.prog.cellsOf 35 = 2 := by kernel_rfl

theorem walk (a0 : Int) (a1 : Int) (a2 : Int) (a3 : Int) (a4 : Int)  (w0 : (Lit.int .u64 a0).wf = true) (w1 : (Lit.int .u64 a1).wf = true) (w2 : (Lit.int .u64 a2).wf = true) (w3 : (Lit.int .u64 a3).wf = true) (w4 : (Lit.int .u64 a4).wf = true) (w : World) (hT : PowTab w) :
    Calls Tryd.prog 12 #[.agg #[.int .u64 a0, .int .u64 a1], .agg #[.int .u64 a2, .int .u64 a3], .int .u64 a4] w fun e w' => e = .returned (.bool true) ∧ Below w.heap.size w w' := by
  have ba0 := bounds_u64 w0
  have ba1 := bounds_u64 w1
  have ba2 := bounds_u64 w2
  have ba3 := bounds_u64 w3
  have ba4 := bounds_u64 w4
  exact wideLaws_all a0 a1 a2 a3 a4  (by omega) (by omega) (by omega) (by omega) (by omega) (by omega) (by omega) (by omega) (by omega) (by omega) w hT

theorem gT : Tryd.prog.globalNamed "internal/strconv.uint64pow10" = some 2 := by kernel_rfl
theorem gTType : (Tryd.prog.globals[2]?).map (·.type) = some 154 := by kernel_rfl
theorem cellsT : Tryd.prog.cellsOf 154 = 20 := by kernel_rfl
theorem cellsE : Tryd.prog.cellsOf 28 = 1 := by kernel_rfl
theorem laid_eq : (Rows.wideLawsRow.laid.filter fun x => x.1 == "internal/strconv.uint64pow10") = [("internal/strconv.uint64pow10", Lib.tabData .u64 Lib.pow10Tab)] := by kernel_rfl
theorem tab_at {W : World} (h : laidMetH Tryd.prog Rows.wideLawsRow.laid W) : PowTab W := by
  have h2 := laidMetH.filter (fun x => x.1 == "internal/strconv.uint64pow10") h
  rw [laid_eq] at h2
  rw [MakeChecks.laidMetH_plain _ _ _ (by kernel_rfl)] at h2
  exact Lib.tabIs_of_head gT gTType Tryd.underlying154 Tryd.underlying28 cellsE cellsT h2

set_option maxRecDepth 100000 in
theorem lifted (os : Os) (started : os.Started) (H : Type) (enc : TypeId × Value → H) :
    ReturnsInHanded {} Tryd.checked os 12 .any (fun w args => (Rows.wideLawsSpec.pre enc Tryd.prog Tryd.f12 Rows.wideLawsRow.domain false w args ∧ laidMetH Tryd.prog Rows.wideLawsRow.laid w) ∧ sizedMet enc Tryd.prog Tryd.f12 (OpenSpec.ofChange Rows.wideLawsSpec) false w args)
      (Rows.wideLawsSpec.post enc Tryd.prog Tryd.f12 false true false false) := by
  refine returnsInHanded_of_change_and (C := Tryd.checked) (X := fun w _ => laidMetH Tryd.prog Rows.wideLawsRow.laid w) (fun _ _ _ hh h => h.of_heap hh) own started (by kernel_rfl) Tryd.func12
    (ChangeSpec.witness_shaped (enc := enc) (C := Tryd.checked) (os := os) (X := fun w _ => laidMetH Tryd.prog Rows.wideLawsRow.laid w) false (World.laidAll Tryd.prog os Rows.wideLawsRow.laid) #[.agg #[.int .u64 0, .int .u64 0], .agg #[.int .u64 0, .int .u64 0], .int .u64 0] 8 (World.laidAll_os _ _ _) (World.shaped_of_ZipB (by kernel_rfl) (by kernel_rfl)) (by kernel_rfl) (by kernel_rfl) (by kernel_rfl) (by rw [MakeChecks.laidMetH_plain _ _ _ (by kernel_rfl)]; exact laidMet_laidAll _ (by kernel_rfl) (by kernel_rfl))) ?_
  intro W base args ds gs before hval0 hW hcnd _ hL _
  have hval : ∀ (j : Nat) t v, Tryd.f12.params[j]? = some t → args[j]? = some v → Value.okWide Tryd.prog W .any base t v := hval0
  have hW' := hW
  obtain ⟨p, q, hA0, hV, rfl, hfz, hnd⟩ := hW
  have hA : DataW.TrodAll enc Tryd.prog W 0 (fun _ => true) true Tryd.f12.params.toList args.toList ds p := hA0
  rw [Tryd.params12] at hA hval
  obtain ⟨v0, vs0, d0, ds0, p0, q0, hargs, rfl, rfl, h0, r0⟩ := trodAll_cons hA
  obtain ⟨v1, vs1, d1, ds1, p1, q1, rfl, rfl, rfl, h1, r1⟩ := trodAll_cons r0
  obtain ⟨v2, vs2, d2, ds2, p2, q2, rfl, rfl, rfl, h2, r2⟩ := trodAll_cons r1
  obtain ⟨rfl, rfl, rfl⟩ := trodAll_nil r2
  obtain rfl : args = #[v0, v1, v2] := by cases args; simp_all
  obtain ⟨rfl, rfl⟩ := trodVars_none hV
  obtain ⟨s0_0, s0_1, y0_0, y0_1, m0, rfl, rfl, rfl, hy0_0, hy0_1⟩ := Joins.open_agg2 Tryd.underlying35 (by kernel_rfl) cells35 (hval 0 35 v0 rfl rfl) h0
  obtain ⟨a0, e0_0, rfl, w0⟩ := DataW.trod_int Tryd.underlying28 hy0_0
  obtain ⟨a1, e0_1, rfl, w1⟩ := DataW.trod_int Tryd.underlying28 hy0_1
  simp at e0_0 e0_1
  subst e0_0 e0_1
  have two0 : ∀ (W' : World) (sp : Nat → Bool), DataW.Trod enc Tryd.prog W' 0 sp true 35 (.agg #[.int .u64 a0, .int .u64 a1]) (.agg [.lit (.int .u64 a0), .lit (.int .u64 a1)]) [] := fun W' sp =>
    Joins.shut_agg2 (y0 := (.lit (.int .u64 a0), [])) (y1 := (.lit (.int .u64 a1), [])) Tryd.underlying35 (by kernel_rfl) cells35 ⟨1, by simp [DataW.trod, Tryd.underlying28, w0]⟩ ⟨1, by simp [DataW.trod, Tryd.underlying28, w1]⟩
  obtain ⟨s1_0, s1_1, y1_0, y1_1, m1, rfl, rfl, rfl, hy1_0, hy1_1⟩ := Joins.open_agg2 Tryd.underlying35 (by kernel_rfl) cells35 (hval 1 35 v1 rfl rfl) h1
  obtain ⟨a2, e1_0, rfl, w2⟩ := DataW.trod_int Tryd.underlying28 hy1_0
  obtain ⟨a3, e1_1, rfl, w3⟩ := DataW.trod_int Tryd.underlying28 hy1_1
  simp at e1_0 e1_1
  subst e1_0 e1_1
  have two1 : ∀ (W' : World) (sp : Nat → Bool), DataW.Trod enc Tryd.prog W' 0 sp true 35 (.agg #[.int .u64 a2, .int .u64 a3]) (.agg [.lit (.int .u64 a2), .lit (.int .u64 a3)]) [] := fun W' sp =>
    Joins.shut_agg2 (y0 := (.lit (.int .u64 a2), [])) (y1 := (.lit (.int .u64 a3), [])) Tryd.underlying35 (by kernel_rfl) cells35 ⟨1, by simp [DataW.trod, Tryd.underlying28, w2]⟩ ⟨1, by simp [DataW.trod, Tryd.underlying28, w3]⟩
  obtain ⟨a4, rfl, rfl, rfl, w4⟩ := open_int Tryd.underlying28 (hval 2 28 v2 rfl rfl) h2
  clear hA0 hval0
  simp only [List.append_nil] at hW'
  have hT := tab_at hL
  refine (walk a0 a1 a2 a3 a4 w0 w1 w2 w3 w4 W hT).mono fun e W' ⟨he, hg⟩ => ?_
  subst he
  exact ⟨_, rfl, post_of_under (pa := []) (pv := []) hW' (fun _ _ _ => (trodAll_cons_mk (shut_bool Tryd.underlying4 _) trodAll_mk0)) (fun sp _ => (trodAll_cons_mk (two0 _ sp) (trodAll_cons_mk (two1 _ sp) (trodAll_cons_mk (shut_int Tryd.underlying28 w4) trodAll_mk0)))) (fun _ _ => rfl) rfl (hg.frame _)⟩

theorem over : Rows.wideLawsRow.holds Tryd.pinned (OpenSpec.ofChange Rows.wideLawsSpec) :=
  OpenClaim.holds_of_wide 12 Tryd.f12 rfl rfl rfl rfl rfl rfl rfl ⟨rfl, rfl, rfl, rfl, rfl⟩ rfl rfl rfl rfl rfl (by kernel_rfl) Tryd.func12 (by kernel_rfl)
    (of_decide_eq_true (by kernel_rfl)) (by unfold Func.isWrapper; first | (rw [if_pos (by decide +kernel)]; kernel_rfl) | (rw [if_neg (by decide +kernel)]; exact ⟨rfl, rfl⟩))
    (fun os started H enc _ => lifted os started H enc)

theorem proved : Rows.WideLawsCardSaid :=
  Claim7.holds_tied_plain_at .later [] [.data, .data, .data, .data, .pinned] true (true, "8702a2dca1a14dd08fac32412e4034720622c89e4848d03b01a4ce5d06521e69") false
    over (fun _ h => by cases h) (by kernel_rfl) (fun _ h => by cases h) wideLaws_row_tie rfl ⟨rfl, rfl⟩ (by kernel_rfl) rfl
    (fun f fn hf hfn => by
      obtain rfl : f = 12 := Option.some.inj ((show Tryd.prog.funcNamed "propylon/propylonlaw6.WideLaws" = some 12 by kernel_rfl).symm.trans hf) |>.symm
      obtain rfl : fn = Tryd.f12 := (Option.some.inj (Tryd.func12.symm.trans hfn)).symm
      exact ⟨by kernel_rfl, fun j t ht => by
        rw [Tryd.params12] at ht
        have hm : t ∈ [35, 35, 28] := by simpa using Array.mem_of_getElem? ht
        have hall : ([35, 35, 28].all fun u => !Tryd.prog.wantsStandIn u) = true := by kernel_rfl
        exact (show Tryd.prog.wantsStandIn t = false by simpa using List.all_eq_true.1 hall t hm)⟩)
    (by kernel_rfl)
end Go.Proofs.YtgkgacmphafieaaDoor.wideLaws
