/- A fault that came in, read open; a frame for rows that list variables, with the world's shape in hand. No condition. -/
import Derived.Handed
import Derived.ShapedOpen
import Derived.Lib.SmallJoins
import Derived.Test.YtiagngnpbpblaaaDoorBack
namespace Go.Proofs.YtiagngnpbpblaaaDoor
open Go.ChangeShapes Go.WideShapes Go.ChangeAt Go.WideMaps Go.WideElems Go.RowKit
set_option linter.unusedSimpArgs false
set_option linter.unusedVariables false
theorem list_gp (f : Nat → Int) (n : Nat) : ∀ i, i < n → f i = ((List.range n).map f).getD i 0 := fun i hi => by
  rw [List.getD_eq_getElem?_getD, List.getElem?_map, List.getElem?_range hi]; rfl
theorem fault_open {H : Type} {enc : TypeId × Value → H} {P : Program} {w : World} {r : Reach} {b0 b : Nat} {hd : Bool} {t e : TypeId} {f0 f1 f2 : Field} {v : Value} {d : DataW H} {p : List MemPlace}
    (hs : P.underlying t = some (.struct #[f0, f1, f2])) (hone : Go.Deep.oneCellFields P #[f0, f1, f2] = true) (hC : P.cellsOf t = 3) (u0 : P.underlying f0.type = some (.int .i64)) (u1 : P.underlying f1.type = some (.int .i64)) (u2 : P.underlying f2.type = some (.slice e)) (he : P.underlying e = some (.int .i64)) (hc : P.cellsOf e = 1)
    (hv : Value.okWide P w r b0 t v) (h : DataW.Trod enc P w b (fun _ => true) hd t v d p) :
    ∃ (x a : Int) (ad : Option Addr) (n c : Nat) (l : List Int), v = .agg #[.int .i64 x, .int .i64 a, .slice ad n c] ∧ n ≤ c ∧ c ≤ maxLen ∧ l.length = n ∧ Sl .i64 w ad n (fun i => l.getD i 0) ∧ (∀ y ∈ l, y ≤ 9223372036854775807) ∧ x ≤ 9223372036854775807 ∧ a ≤ 9223372036854775807 := by
  obtain ⟨v0, v1, v2, y0, y1, y2, m, rfl, rfl, rfl, h0, h1, h2⟩ := Joins.open_agg3 hs hone hC hv h
  obtain ⟨x, e0, rfl, w0⟩ := DataW.trod_int u0 h0
  obtain ⟨a, e1, rfl, w1⟩ := DataW.trod_int u1 h1
  simp at e0 e1
  subst e0 e1
  have b0 := (bounds_i64 w0).2
  have b1 := (bounds_i64 w1).2
  rcases open_ints u2 he hc h2 with ⟨hcs, _⟩ | ⟨a0, len', cap', zs, hcs, _, hle, hmax, hzs, _, hcell, hwf⟩
  · simp at hcs
    subst hcs
    exact ⟨x, a, none, 0, 0, [], rfl, Nat.le_refl _, Nat.zero_le _, rfl, Sl.none _ _ _ _, fun y hy => (List.not_mem_nil hy).elim, b0, b1⟩
  · simp at hcs
    subst hcs
    simp at hzs
    refine ⟨x, a, some a0, len', cap', zs.take len', rfl, hle, hmax, by rw [List.length_take]; omega, fun i hi => ⟨a0, rfl, ?_, ?_⟩, fun y hy => (bounds_i64 (hwf y (List.mem_of_mem_take hy))).2, b0, b1⟩
    · have := cell_lt (hcell i (by omega))
      rw [add_block] at this
      exact this
    · have h3 := hcell i (by omega)
      have h4 : (zs.take len').getD i 0 = zs.getD i 0 := by
        rw [List.getD_eq_getElem?_getD, List.getElem?_take, if_pos hi, List.getD_eq_getElem?_getD]
      show w.cell? (a0.add i) = some (.int .i64 ((zs.take len').getD i 0))
      rw [h4]
      exact h3
theorem of_change_and_shaped {H : Type} {enc : TypeId × Value → H} {a : Assume} {C : Checked} {os : Os} {f : FuncId} {fn : Func} {s : ChangeSpec} {conds : List PathCond} {apart fresh handsOn again : Bool} {X : World → Array Value → Prop}
    (hX : ∀ (w w' : World) (args : Array Value), w.heap = w'.heap → X w args → X w' args)
    (own : ownKnob C.prog.godebug = none) (started : os.Started) (noInit : C.prog.inits.idxOf? f = none) (hfn : C.prog.funcs[f]? = some fn)
    (witness : ∃ (w : World) (tape : Tape) (i : Input), w.os = os ∧ (w.forCall tape i).Shaped C.prog ∧ i.vars = [] ∧ Input.okWide C.prog (w.forCall tape i) .any w.heap.size f i ∧
      ((s.pre enc C.prog fn conds apart (w.forCall tape i).memory i.args ∧ X (w.forCall tape i).memory i.args) ∧ sizedMet enc C.prog fn (OpenSpec.ofChange s) apart (w.forCall tape i).memory i.args) ∧ a.holds C.prog (lone (Frame.enter C.prog f i.args .normal) [] (w.forCall tape i)))
    (contract : ∀ (W : World) (base : Nat) (args : Array Value) (ds gs : List (DataW H)) (before : List MemPlace),
      (∀ (j : Nat) t v, fn.params[j]? = some t → args[j]? = some v → Value.okWide C.prog W .any base t v) →
      DataW.Whole enc C.prog fn.params.toList s.vars apart W args.toList ds gs before →
      conds.all (PathCond.test C.prog ⟨fn.params.toList, ds, s.plain.varTypes C.prog, gs⟩) = true →
      (DataW.weightsEach C.prog (fn.params.toList ++ s.plain.varTypes C.prog) (ds ++ gs)).all (· ≤ reachBytes) = true → X W args → W.ShapedOpen C.prog →
      a.holds C.prog (lone (Frame.enter C.prog f args .normal) [] W) →
      Calls C.prog f args W fun e W' => ∃ v, e = .returned v ∧ s.post enc C.prog fn apart fresh handsOn again W args v W') :
    ReturnsInHanded a C os f .any (fun w args => (s.pre enc C.prog fn conds apart w args ∧ X w args) ∧ sizedMet enc C.prog fn (OpenSpec.ofChange s) apart w args) (s.post enc C.prog fn apart fresh handsOn again) := by
  refine returnsInHanded_of_calls own started noInit witness ?_
  intro w tape i _ hsh _ hok hpre hholds
  obtain ⟨_, _, _, fn', hfn', _, _, _, _, hval⟩ := hok
  have e : fn' = fn := Option.some.inj (hfn'.symm.trans hfn)
  subst e
  obtain ⟨⟨⟨ds, gs, before, hw, hc⟩, hx⟩, hz⟩ := hpre
  have hw' := DataW.Whole.of_heap (w' := w.forCall tape i) (by rfl) hw
  refine (contract (w.forCall tape i) w.heap.size i.args ds gs before hval hw' hc (hz.weights hw) (hX _ _ _ (by rfl) hx) hsh hholds).mono fun e W' ⟨v, he, hp⟩ => ?_
  subst he
  exact ChangeSpec.post_blind hp
end Go.Proofs.YtiagngnpbpblaaaDoor
